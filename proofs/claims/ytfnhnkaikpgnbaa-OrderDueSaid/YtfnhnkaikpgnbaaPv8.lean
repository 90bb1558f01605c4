/- The engine, part 8: what is put behind a row; bytes and texts. -/
import Derived.Test.YtfnhnkaikpgnbaaPv7
namespace Go.Pv
open Go
set_option linter.all false
set_option linter.constructorNameAsVariable false
set_option linter.unusedSectionVars false
set_option linter.unusedVariables false
set_option linter.unusedSimpArgs false
variable {N : List Nat}

section
variable {C : Cfg} {G : Gh N} {w : World} {h : List Ob}

def Gh.add0 (G : Gh N) (v : Value) : Gh N := ⟨G.ρ ++ [v], G.ow, G.I⟩

/-- An object more without a block of its own. -/
theorem mem_push0 (hm : Mem G w h) {v : Value} {ob : Ob} (hv : v.oneCell' = true) (ho : Obj (G.add0 v) w h.length ob) :
    Mem (G.add0 v) w (h ++ [ob]) ∧ Subs G w (G.add0 v) w ∧ Ext G w (G.add0 v) w := by
  have hs : Subs G w (G.add0 v) w := ⟨fun _ _ k => ⟨k, rfl⟩, fun id u k => by
    have := (List.getElem?_eq_some_iff.1 k).1
    simp only [Gh.add0]
    rw [List.getElem?_append_left this]; exact k⟩
  refine ⟨⟨by simp [Gh.add0, hm.len], fun id u hu => ?_, fun id o' hi => ?_, hm.I, fun b o id k => ?_, gl_sub hs hm.gl⟩, hs, ⟨fun _ _ k => k, Nat.le_refl _, fun b o _ k => ⟨k, rfl, rfl⟩, fun _ _ _ => rfl, fun _ _ _ k => .inl k, Rest.refl _⟩⟩
  · dsimp only [Gh.add0] at hu
    rcases Nat.lt_or_ge id G.ρ.length with hlt | hge
    · rw [List.getElem?_append_left hlt] at hu
      exact hm.one _ _ hu
    · rw [List.getElem?_append_right hge] at hu
      cases hd : id - G.ρ.length with
      | zero => rw [hd] at hu; simp at hu; rw [← hu]; exact hv
      | succ n => rw [hd] at hu; simp at hu
  · rcases Nat.lt_or_ge id h.length with hlt | hge
    · rw [List.getElem?_append_left hlt] at hi
      exact Obj.keep hs (fun b o k => ⟨k, rfl, rfl⟩) (hm.obj id o' hi)
    · rw [List.getElem?_append_right hge] at hi
      cases hd : id - h.length with
      | zero =>
        rw [hd] at hi
        have : o' = ob := by simpa using hi.symm
        rw [this, show id = h.length by omega]
        exact ho
      | succ n => rw [hd] at hi; simp at hi
  · have := hm.ow _ _ _ k
    rw [List.length_append]
    exact ⟨by omega, this.2⟩

/-- What is put behind: its values, as the machine reads them. -/
def Tail (G : Gh N) (w : World) (P : Program) (e : Ty) (ys : List e.den) (vx : Value) : Prop :=
  (Builtin.lenOf vx).run P w = .ok ys.length w ∧ ∃ news : Array Value, news.size = ys.length * e.n ∧ (∀ w', w'.heap = w.heap → (Builtin.firstCells e.n ys.length vx).run P w' = .ok news w') ∧
    (∀ (k : Nat) (val : Value), news[k]? = some val → val.oneCell' = true) ∧
    ∀ (j : Nat) (y : e.den) (k : Nat) (v : V) (val : Value), ys[j]? = some y → (e.leaves y)[k]? = some v → news[j * e.n + k]? = some val → Rel G w v val

/-- The leaf of a typed value is one cell. -/
theorem leaves_leaf : ∀ (t : Ty) (x : t.den) (v : V), v ∈ t.leaves x → v.leaf = true ∧ ∀ id, v ≠ .row id
  | .b, x, v, h => by simp [Ty.leaves] at h; subst h; exact ⟨rfl, fun id => by simp⟩
  | .y8, x, v, h => by simp [Ty.leaves] at h; subst h; exact ⟨rfl, fun id => by simp⟩
  | .i k, x, v, h => by simp [Ty.leaves] at h; subst h; exact ⟨rfl, fun id => by simp⟩
  | .s, x, v, h => by simp [Ty.leaves] at h; subst h; exact ⟨rfl, fun id => by simp⟩
  | .c, x, v, h => by simp [Ty.leaves] at h; subst h; exact ⟨rfl, fun id => by simp⟩
  | .l e, x, v, h => by simp [Ty.leaves] at h; subst h; exact ⟨rfl, fun id => by simp⟩
  | .p t1 t2, x, v, h => by
    simp only [Ty.leaves, List.mem_append] at h
    rcases h with h | h
    · exact leaves_leaf t1 _ v h
    · exact leaves_leaf t2 _ v h
  | .w t1, x, v, h => leaves_leaf t1 x v h
  | .ex, x, v, h => by
    simp only [Ty.leaves, List.mem_cons, List.not_mem_nil, or_false] at h
    rcases h with rfl | rfl | rfl | rfl | rfl | rfl | rfl <;> exact ⟨rfl, fun id => by simp⟩

theorem split_idx {n k l : Nat} (hn : 0 < n) (h : k < l * n) : k / n < l ∧ k % n < n ∧ k / n * n + k % n = k :=
  ⟨(Nat.div_lt_iff_lt_mul hn).2 h, Nat.mod_lt _ hn, Nat.div_add_mod' k n⟩

/-- A list's cells, where they lie. -/
theorem tail_cells {e : Ty} {ys : List e.den} {b o cap : Nat} (hc : ∀ (j : Nat) (y : e.den), ys[j]? = some y → CellsAt G w b (o + j * e.n) (e.leaves y)) : Tail G w C.P e ys (.slice (some ⟨b, o, none⟩) ys.length cap) := by
  have hcell : ∀ k, k < ys.length * e.n → ∃ v val, (∃ y, ys[k / e.n]? = some y ∧ (e.leaves y)[k % e.n]? = some v) ∧ cel w b (o + k) = some val ∧ Rel G w v val := by
    intro k hk
    obtain ⟨h1, h2, h3⟩ := split_idx (Ty.n_pos e) hk
    have hy : ys[k / e.n]? = some ys[k / e.n] := List.getElem?_eq_getElem h1
    have hv : (e.leaves ys[k / e.n])[k % e.n]? = some ((e.leaves ys[k / e.n])[k % e.n]'(by rw [Ty.leaves_length]; exact h2)) := List.getElem?_eq_getElem _
    obtain ⟨val, q1, q2⟩ := hc _ _ hy _ _ hv
    rw [Nat.add_assoc, h3] at q1
    exact ⟨_, val, ⟨_, hy, hv⟩, q1, q2⟩
  refine ⟨rfl, ((List.range (ys.length * e.n)).map fun k => (cel w b (o + k)).getD undef).toArray, by simp, fun w' hw' => ?_, fun k val hval => ?_, fun j y k v val hy hv hval => ?_⟩
  · have := run_loadCells (P := C.P) w' ⟨b, o, none⟩ (ys.length * e.n) (fun k => (cel w b (o + k)).getD undef) (fun j hj => by
      obtain ⟨v, val, _, q1, _⟩ := hcell j hj
      have : cel w' b (o + j) = cel w b (o + j) := by simp [cel, World.cell?, hw']
      rw [add_at, q1]
      exact this.trans q1)
    exact this
  · have hk : k < ys.length * e.n := by have := (Array.getElem?_eq_some_iff.1 hval).1; simpa using this
    simp only [List.getElem?_toArray, List.getElem?_map, List.getElem?_range hk, Option.map_some, Option.some.injEq] at hval
    obtain ⟨v, val', ⟨y, q0, q0'⟩, q1, q2⟩ := hcell k hk
    rw [q1] at hval
    simp at hval
    subst hval
    obtain ⟨l1, l2⟩ := leaves_leaf e y v (List.mem_of_getElem? q0')
    exact q2.one l1 l2
  · have hin := in_row (elem_lt hy) (leaf_lt hv)
    simp only [List.getElem?_toArray, List.getElem?_map, List.getElem?_range hin, Option.map_some, Option.some.injEq] at hval
    obtain ⟨val', q1, q2⟩ := hc j y hy k v hv
    rw [Nat.add_assoc] at q1
    rw [q1] at hval
    simp at hval
    subst hval
    exact q2

theorem tail_nil (e : Ty) (A : Option Addr) (cap : Nat) : Tail G w C.P e [] (.slice A 0 cap) :=
  ⟨rfl, #[], by simp, fun w' _ => by cases A <;> simp [Builtin.firstCells, loadCells, loadCellsFrom], fun k val hval => by simp at hval, fun j y k v val hy => by simp at hy⟩

theorem tail_list {e : Ty} {ys : List e.den} {vx : Value} (hr : Rel G w (.l e ys) vx) : Tail G w C.P e ys vx := by
  cases hr with
  | lnil _ A cap => exact tail_nil e A cap
  | l _ _ b o cap f hc hmm hrr =>
    refine tail_cells fun j y hy k v hv => ⟨_, ?_, hrr j y k v hy hv⟩
    rw [Nat.add_assoc]
    exact (hmm j y k v hy hv).2

theorem tail_ok (hm : Mem G w h) {e : Ty} {ys : List e.den} {x : V} {vx : Value} (hx : Rel G w x vx) (ht : tailV e h x = some ys) : Tail G w C.P e ys vx := by
  unfold tailV at ht
  split at ht
  · rename_i a
    cases hx
    cases e with
    | y8 =>
      simp only [Option.some.injEq] at ht
      subst ht
      have hlen : a.data.toList.length = a.size := by simp
      refine ⟨by rw [hlen]; rfl, a.data.map fun b => Value.int .u8 b.toNat, by simp [Ty.n], fun w' _ => ?_, fun k val hval => ?_, fun j y k v val hy hv hval => ?_⟩
      · show (pure ((a.extract 0 _).data.map fun b => Value.int .u8 b.toNat) : Sem (Array Value)).run C.P w' = _
        rw [Sem.run_pure, hlen]
        congr 2
        simp [ByteArray.extract, ByteArray.copySlice]
      · simp only [Array.getElem?_map, Option.map_eq_some_iff] at hval
        obtain ⟨y, _, rfl⟩ := hval
        rfl
      · have hk : k = 0 := by have := leaf_lt hv; simp [Ty.n] at this; exact this
        subst hk
        simp only [Ty.n, Nat.mul_one, Nat.add_zero] at hval
        simp only [Ty.leaves, List.getElem?_cons_zero, Option.some.injEq] at hv
        subst hv
        rw [Array.getElem?_toList] at hy
        simp only [Array.getElem?_map, hy, Option.map_some, Option.some.injEq] at hval
        subst hval
        have := UInt8.toNat_lt y
        exact .i _ _ fun _ => by omega
    | _ => cases ht
  · rename_i hns
    cases x with
    | row id =>
      cases hx with
      | row _ _ hρ =>
        simp only [imm1, nth_eq] at ht
        split at ht
        · rename_i e' zs hob
          obtain ⟨he, hy⟩ := castL_some (show castL e e' zs = some ys from ht)
          subst he
          subst hy
          rcases hm.obj _ _ hob with ⟨h1, h2⟩ | ⟨b', o', cap', h1, h2⟩
          · rw [hρ] at h1
            injection h1 with h1
            subst h1; subst h2
            exact tail_nil _ none 0
          · rw [hρ] at h1
            injection h1 with h1
            subst h1
            exact tail_cells fun j y hy => row_elem h2 (elem_lt hy) y hy
        · rename_i e' zs hob
          obtain ⟨v, h1, h2⟩ := hm.obj _ _ hob
          rw [hρ] at h1
          injection h1 with h1
          subst h1
          exact tail_list (asL_rel ht h2)
        · cases ht
    | _ => exact tail_list (asL_rel ht hx)

/-- The first two operands' types. -/
theorem run_append {t tx te ty : TypeId} (ht : C.P.underlying t = some (.slice te)) {d : TypeDesc} (hu : C.P.underlying tx = some d) (hd : (∃ e', d = .slice e') ∨ d = .string) {i : TypeInfo} {zv : Value} (hi : C.P.info? te = some i) (hz : i.zero = some zv)
    {base : Option Addr} {sLen sCap n : Nat} {vx : Value} {news : Array Value} (hn : (Builtin.lenOf vx).run C.P w = .ok n w) (hf : ∀ w', w'.heap = w.heap → (Builtin.firstCells i.size n vx).run C.P w' = .ok news w') :
    (sLen + n ≤ sCap → (Builtin.append_ #[t, tx] ty #[.slice base sLen sCap, vx]).run C.P w = ((match base with | some a => storeCells (a.add (sLen * i.size)) news.toList | none => pure ()) >>= fun _ => (pure (.slice base (sLen + n) sCap) : Sem Value)).run C.P w) ∧
    (¬ sLen + n ≤ sCap → Builtin.nextslicecap (sLen + n) sCap * i.bytes ≤ 281474976710656 → i.bytes ≠ 0 → ∀ olds : Array Value, (∀ w', w'.heap = w.heap → (Builtin.firstCells i.size sLen (.slice base sLen sCap)).run C.P w' = .ok olds w') →
      (Builtin.append_ #[t, tx] ty #[.slice base sLen sCap, vx]).run C.P w = .ok (.slice (some ⟨w.heap.size, 0, none⟩) (sLen + n) (grownCap w (sLen + n) sCap te))
        (w.drew.alloc (.cells (olds ++ news ++ Builtin.zeroCells zv.cells (grownCap w (sLen + n) sCap te - (sLen + n))) te))) := by
  have hf0 := hf w rfl
  have hf1 := hf w.drew rfl
  have e1 : ({ w with drawn := w.drawn + 1 } : World) = w.drew := rfl
  rcases hd with ⟨e', rfl⟩ | rfl
  all_goals
    constructor
    · intro hfit
      cases base <;> simp [Builtin.append_, run_underlying ht, run_underlying hu, sizeOf, typeInfo, hi, hn, hfit, hf0]
    · intro hfit hb hb0 olds hold
      have hb' : ¬ (281474976710656 < Builtin.nextslicecap (sLen + n) sCap * i.bytes) := by omega
      have hold1 := hold w.drew rfl
      simp [Builtin.append_, run_underlying ht, run_underlying hu, sizeOf, typeInfo, zeroValue, hi, hz, hn, hfit, hb', hb0, Question.forced, newRow, e1, hold1, hf1, grownCap]

/-- What an object owned is another one's from now on. -/
def Gh.move (G : Gh N) (id : Nat) (v : Value) : Gh N := ⟨G.ρ ++ [v], fun b o => if G.ow b o = some id then some G.ρ.length else G.ow b o, G.I⟩

theorem mem_move (hm : Mem G w h) {id : Nat} {v : Value} {ob : Ob} {w' : World} (hid : id < h.length) (hv : v.oneCell' = true) (hsz : w'.heap.size = w.heap.size) (hrest : Rest w w')
    (hc : ∀ b o, G.ow b o ≠ some id → cel w' b o = cel w b o) (hf : ∀ b o, frz w' b o = frz w b o) (hb : ∀ b, (∀ o, G.ow b o = none) → w'.heap[b]? = w.heap[b]?) (ho : Subs G w (G.move id v) w' → Obj (G.move id v) w' h.length ob) :
    Mem (G.move id v) w' (h.set id .dead ++ [ob]) ∧ Subs G w (G.move id v) w' ∧ Ext G w (G.move id v) w' := by
  have hs : Subs G w (G.move id v) w' := ⟨fun b o k => ⟨k, hc _ _ (by rw [(hm.I _ _ k).1]; simp)⟩, fun i u k => by
    have := (List.getElem?_eq_some_iff.1 k).1
    simp only [Gh.move]
    rw [List.getElem?_append_left this]; exact k⟩
  refine ⟨⟨by simp [Gh.move, hm.len], fun i u hu => ?_, fun i o' hi => ?_, fun b o k => ?_, fun b o i k => ?_, gl_sub hs hm.gl⟩, hs, ⟨fun _ _ k => k, by omega, fun b o _ k => ⟨?_, hc _ _ (by rw [k]; simp), hf _ _⟩, fun b _ k => hb b k, fun _ _ _ k => .inl k, hrest⟩⟩
  · simp only [Gh.move] at hu
    rcases Nat.lt_or_ge i G.ρ.length with hlt | hge
    · rw [List.getElem?_append_left hlt] at hu
      exact hm.one _ _ hu
    · rw [List.getElem?_append_right hge] at hu
      cases hd : i - G.ρ.length with
      | zero => rw [hd] at hu; simp at hu; rw [← hu]; exact hv
      | succ n => rw [hd] at hu; simp at hu
  · rcases Nat.lt_or_ge i h.length with hlt | hge
    · rw [List.getElem?_append_left (by rw [List.length_set]; exact hlt)] at hi
      by_cases he : i = id
      · subst he
        rw [List.getElem?_set_self hlt] at hi
        injection hi with hi
        subst hi
        exact ⟨_, hs.ρ _ _ (List.getElem?_eq_getElem (by rw [hm.len]; exact hlt))⟩
      · rw [List.getElem?_set_ne (Ne.symm he)] at hi
        have hne : ∀ b o, G.ow b o = some i → ¬ G.ow b o = some id := fun b o k q => by rw [k] at q; injection q with q; exact he q
        refine Obj.keep hs (fun b o k => ⟨?_, hc _ _ (hne b o k), hf _ _⟩) (hm.obj _ _ hi)
        simp only [Gh.move]
        rw [if_neg (hne b o k)]
        exact k
    · rw [List.getElem?_append_right (by rw [List.length_set]; exact hge), List.length_set] at hi
      cases hd : i - h.length with
      | zero =>
        rw [hd] at hi
        have : o' = ob := by simpa using hi.symm
        rw [this, show i = h.length by omega]
        exact ho hs
      | succ n => rw [hd] at hi; simp at hi
  · have := hm.I b o k
    rw [hsz]
    refine ⟨?_, this.2⟩
    simp only [Gh.move]
    rw [if_neg (by rw [this.1]; simp)]
    exact this.1
  · simp only [Gh.move] at k
    rw [hsz, List.length_append, List.length_set, List.length_singleton]
    split at k
    · rename_i q
      injection k with k
      have := hm.ow _ _ _ q
      have := hm.len
      omega
    · have := hm.ow _ _ _ k
      omega
  · simp only [Gh.move]
    rw [if_neg (by rw [k]; simp)]
    exact k

theorem elem_app {e : Ty} {xs ys : List e.den} {j k : Nat} {x : e.den} (h : (xs ++ ys)[j]? = some x) : (j < xs.length ∧ xs[j]? = some x) ∨ (xs.length ≤ j ∧ ys[j - xs.length]? = some x) := by
  rcases Nat.lt_or_ge j xs.length with hlt | hge
  · rw [List.getElem?_append_left hlt] at h
    exact .inl ⟨hlt, h⟩
  · rw [List.getElem?_append_right hge] at h
    exact .inr ⟨hge, h⟩

/-- A row that grows into a new block. -/
theorem grow_new {hd : List Ob} (hm : Mem G w hd) {te : TypeId} {e : Ty} {xs ys : List e.den} {olds news : Array Value} {zs : Array Value} {need cap0 : Nat} (hneed : need = xs.length + ys.length)
    (ho : olds.size = xs.length * e.n) (hn : news.size = ys.length * e.n) (hz : zs.size = e.n)
    (hor : ∀ (j : Nat) (x : e.den) (k : Nat) (v : V) (val : Value), xs[j]? = some x → (e.leaves x)[k]? = some v → olds[j * e.n + k]? = some val → Rel G w v val)
    (hnr : ∀ (j : Nat) (x : e.den) (k : Nat) (v : V) (val : Value), ys[j]? = some x → (e.leaves x)[k]? = some v → news[j * e.n + k]? = some val → Rel G w v val) (r : Result Next)
    (hrun : r = .ok (.value (.slice (some ⟨w.heap.size, 0, none⟩) need (grownCap w need cap0 te))) (w.drew.alloc (.cells (olds ++ news ++ Builtin.zeroCells zs (grownCap w need cap0 te - need)) te))) :
    Did G w r (.row hd.length) (hd ++ [.row e (xs ++ ys)]) := by
  subst hneed
  have hge := grownCap_ge w (xs.length + ys.length) cap0 te
  refine new_row hm (w1 := w.drew) rfl te _ e (xs ++ ys) (grownCap w (xs.length + ys.length) cap0 te) (by rw [List.length_append]; omega) ?_ (fun j x k v val hx hv hval => ?_) r (by rw [hrun, List.length_append])
  · simp only [Array.size_append, size_zeroCells, ho, hn, hz, ← Nat.add_mul]
    exact Nat.mul_le_mul_right _ (by omega)
  · have hk := leaf_lt hv
    rw [Array.append_assoc] at hval
    rcases elem_app (k := 0) hx with ⟨hlt, hx'⟩ | ⟨hle, hx'⟩
    · have := in_row hlt hk
      rw [Array.getElem?_append_left (by omega)] at hval
      exact hor j x k v val hx' hv hval
    · have h1 := in_row (elem_lt hx') hk
      have h2 : j * e.n = xs.length * e.n + (j - xs.length) * e.n := by rw [← Nat.add_mul]; congr 1; omega
      rw [Array.getElem?_append_right (by omega), Array.getElem?_append_left (by omega), show j * e.n + k - olds.size = (j - xs.length) * e.n + k by omega] at hval
      exact hnr _ x k v val hx' hv hval

theorem append_ok (hm : Mem G w h) (t tx ty : TypeId) {s x : V} {vs vx : Value} (hs : Rel G w s vs) (hx : Rel G w x vx) :
    OutOk G w ((do let r ← Builtin.append_ #[t, tx] ty #[vs, vx]; pure (.value r) : Sem Next).run C.P w) (appendV C h t tx s x) := by
  unfold appendV
  split
  · rename_i te z hte htx hz
    rw [hte] at hz
    dsimp only at hz
    obtain ⟨d, hu, hd⟩ : ∃ d, C.P.underlying tx = some d ∧ ((∃ e', d = .slice e') ∨ d = .string) := by
      split at htx
      · rename_i e' hu; exact ⟨_, hu, .inl ⟨e', rfl⟩⟩
      · rename_i hu; exact ⟨_, hu, .inr rfl⟩
      · cases htx
    split
    · rename_i e by_ he hby
      split
      · rename_i ys hys0
        obtain ⟨hzl, hys⟩ : z.length = e.n ∧ tailV e h x = some ys := by
          cases hb : Nat.beq z.length e.n with
          | true => rw [hb, cond_true] at hys0; exact ⟨Nat.eq_of_beq_eq_true hb, hys0⟩
          | false => rw [hb, cond_false] at hys0; cases hys0
        obtain ⟨i, zv, hi, hzi, hcz⟩ := zero_cells (C := C) (G := G) (w := w) hz
        have hzs : zv.cells.size = e.n := by rw [← hcz.1]; exact hzl
        have hsz : i.size = e.n := by
          have := tyOf_size he
          unfold Cfg.size at this
          rw [hi] at this
          simpa using this
        have hbz : i.bytes = by_ + 1 := by
          unfold Cfg.bytes at hby
          rw [hi] at hby
          simpa using hby
        obtain ⟨t1, news, t2, t3, t4, t5⟩ := tail_ok (C := C) hm hx hys
        have hpos := Ty.n_pos e
        have hrunA := fun base sLen sCap => run_append (C := C) (w := w) (ty := ty) (base := base) (sLen := sLen) (sCap := sCap) (elem_run hte) hu hd hi hzi t1 (by rw [hsz]; exact t3)
        have fromNil : ∀ (hd : List Ob), hd.length = h.length → Mem G w hd → ys.length * (by_ + 1) ≤ 140737488355328 → vs = .slice none 0 0 →
            Did G w ((do let r ← Builtin.append_ #[t, tx] ty #[vs, vx]; pure (.value r) : Sem Next).run C.P w) (.row h.length) (hd ++ [.row e ys]) := by
          rintro hd hlen hmd hb rfl
          obtain ⟨a1, a2⟩ := hrunA none 0 0
          by_cases h0 : ys.length = 0
          · have hnil : ys = [] := List.eq_nil_of_length_eq_zero h0
            subst hnil
            have hr := a1 (by simp)
            obtain ⟨m1, m2, m3⟩ := mem_push0 hmd (v := .slice none 0 0) (ob := .row e []) rfl (.inl ⟨by rw [← hmd.len]; simp [Gh.add0], rfl⟩)
            refine ⟨.slice none 0 0, w, _, .inl ?_, .row _ _ (by rw [← hlen, ← hmd.len]; simp [Gh.add0]), m1, m2, m3⟩
            simp only [Sem.run_bind, hr]
            rfl
          · have hfit : Builtin.nextslicecap (0 + ys.length) 0 * i.bytes ≤ 281474976710656 := growslice_fits (by omega) (by rw [hbz, Nat.zero_add]; exact hb)
            have hr := a2 (by omega) hfit (by omega) #[] (fun w' _ => by simp [Builtin.firstCells])
            rw [← hlen]
            exact grow_new (xs := []) hmd (zs := zv.cells) (olds := #[]) (news := news) (need := 0 + ys.length) (cap0 := 0) (te := te) (by simp) (by simp) t2 hzs (fun j x k v val hx => by simp at hx) t5 _ (by simp only [Sem.run_bind, hr, Result.andThen_ok, Sem.run_pure])
        split
        · intro hb
          have hb := of_decide_eq_true hb
          cases hs
          exact fromNil h rfl hm hb rfl
        · rename_i id
          rw [nth_eq]
          split
          · rename_i e' xs0 hob
            split
            · rename_i xs hcast
              obtain ⟨he', hy'⟩ := castL_some hcast
              subst he'
              subst hy'
              intro hb
              have hb := of_decide_eq_true hb
              have hlt : id < h.length := (List.getElem?_eq_some_iff.1 hob).1
              rw [setn_eq]
              have hdead : Mem G w (h.set id .dead) := mem_same hm ⟨_, List.getElem?_eq_getElem (by rw [hm.len]; exact hlt)⟩
              cases hs with
              | row _ _ hρ =>
                rcases hm.obj _ _ hob with ⟨h1, h2⟩ | ⟨b, o, cap, h1, h2⟩
                · rw [hρ] at h1
                  injection h1 with h1
                  subst h2
                  exact fromNil (h.set id .dead) (by simp) hdead (by simpa using hb) h1
                · rw [hρ] at h1
                  injection h1 with h1
                  subst h1
                  obtain ⟨a1, a2⟩ := hrunA (some ⟨b, o, none⟩) xs0.length cap
                  obtain ⟨r1, r2, r3⟩ := h2
                  by_cases hfit : xs0.length + ys.length ≤ cap
                  · -- in place
                    have hr := a1 hfit
                    obtain ⟨w', k1, k2, k3, k4, k5⟩ := run_stores C.P news.toList w b (o + xs0.length * e'.n) 0 (fun k u hu => by
                      rw [Array.getElem?_toList] at hu
                      have hk : k < ys.length * e'.n := by have := (Array.getElem?_eq_some_iff.1 hu).1; omega
                      have hin : xs0.length * e'.n + k < cap * e'.n := by
                        have := Nat.mul_le_mul_right e'.n hfit
                        rw [Nat.add_mul] at this
                        omega
                      obtain ⟨q1, q2, q3, _⟩ := r2 _ hin
                      rw [show o + xs0.length * e'.n + 0 + k = o + (xs0.length * e'.n + k) by omega]
                      exact ⟨q3, q2, t4 k u hu⟩)
                    simp only [Nat.add_zero, Array.length_toList, t2] at k3 k4 k5
                    have hcapn : xs0.length * e'.n + ys.length * e'.n ≤ cap * e'.n := by rw [← Nat.add_mul]; exact Nat.mul_le_mul_right _ hfit
                    have hkeep : ∀ b' o', G.ow b' o' ≠ some id → cel w' b' o' = cel w b' o' := by
                      intro b' o' hne
                      rw [k3]
                      split
                      · rename_i q
                        obtain ⟨rfl, q1, q2⟩ := q
                        have := (r2 (o' - o) (by omega)).1
                        rw [show o + (o' - o) = o' by omega] at this
                        exact absurd this hne
                      · rfl
                    obtain ⟨m1, m2, m3⟩ := mem_move hm (v := .slice (some ⟨b, o, none⟩) (xs0.length + ys.length) cap) (ob := .row e' (xs0 ++ ys)) hlt rfl k2.1 k2.2 hkeep k4 (fun b' hb' => k5 b' (fun e1 => by
                        subst e1
                        by_cases hn0 : ys.length * e'.n = 0
                        · exact List.eq_nil_of_length_eq_zero (by rw [Array.length_toList, t2]; exact hn0)
                        · have := (r2 (xs0.length * e'.n) (by omega)).1
                          rw [hb'] at this
                          cases this)) (fun hs => .inr ⟨b, o, cap, by rw [List.length_append, ← hm.len]; simp [Gh.move], by rw [List.length_append]; exact hfit, fun k hk => by
                        obtain ⟨q1, q2, q3, q5⟩ := r2 k hk
                        refine ⟨by simp only [Gh.move]; rw [if_pos q1, hm.len], by rw [k4]; exact q2, ?_, q5.keep fun _ q => ⟨by simp only [Gh.move]; rw [if_pos q, hm.len], k4 _ _⟩⟩
                        rw [k3]
                        split
                        · rename_i q
                          have hlen2 : news.toList.length = ys.length * e'.n := by rw [Array.length_toList, t2]
                          rw [List.getElem?_eq_getElem (by omega)]
                          rfl
                        · exact q3, fun j y k u hy hu => by
                        have hk := leaf_lt hu
                        rcases elem_app (k := 0) hy with ⟨hlt', hy'⟩ | ⟨hle', hy'⟩
                        · obtain ⟨val, q1, q2⟩ := r3 j y k u hy' hu
                          have := in_row hlt' hk
                          refine ⟨val, ?_, q2.mono hs⟩
                          rw [k3, if_neg (by omega)]
                          exact q1
                        · have hj := in_row (elem_lt hy') hk
                          have hmul : j * e'.n = xs0.length * e'.n + (j - xs0.length) * e'.n := by rw [← Nat.add_mul]; congr 1; omega
                          have hval : news[(j - xs0.length) * e'.n + k]? = some news[(j - xs0.length) * e'.n + k] := Array.getElem?_eq_getElem (by omega)
                          refine ⟨_, ?_, (t5 _ y k u _ hy' hu hval).mono hs⟩
                          rw [k3, if_pos ⟨rfl, by omega, by omega⟩, Array.getElem?_toList, show o + (j * e'.n + k) - (o + xs0.length * e'.n) = (j - xs0.length) * e'.n + k by omega]
                          exact hval⟩)
                    refine ⟨.slice (some ⟨b, o, none⟩) (xs0.length + ys.length) cap, w', _, .inl ?_, .row _ _ (by rw [← hm.len]; simp [Gh.move]), m1, m2, m3⟩
                    simp only [Sem.run_bind, hr, hsz, add_at]
                    rw [k1]
                    rfl
                  · -- into a new block
                    have hcells := tail_cells (C := C) (G := G) (w := w) (e := e') (ys := xs0) (b := b) (o := o) (cap := cap) (fun j y hy => row_elem ⟨r1, r2, r3⟩ (elem_lt hy) y hy)
                    obtain ⟨_, olds, o2, o3, o4, o5⟩ := hcells
                    have hfit' : Builtin.nextslicecap (xs0.length + ys.length) cap * i.bytes ≤ 281474976710656 := growslice_fits (by omega) (by rw [hbz]; exact hb)
                    have hr := a2 hfit hfit' (by omega) olds (fun w' hw' => by rw [hsz]; exact o3 w' hw')
                    have hlen3 : (h.set id Ob.dead).length = h.length := List.length_set
                    rw [← hlen3]
                    exact grow_new hdead (zs := zv.cells) (olds := olds) (news := news) (need := xs0.length + ys.length) (cap0 := cap) (te := te) rfl o2 t2 hzs o5 t5 _ (by simp only [Sem.run_bind, hr, Result.andThen_ok, Sem.run_pure])
            · trivial
          · trivial
        · trivial
      · trivial
    · trivial
  · trivial

/-! ### bytes and texts -/
theorem foldl_push : ∀ (l : List UInt8) (s : ByteArray), (l.map fun b => (b.toNat : Int)).foldl (fun r n => r.push (UInt8.ofNat n.toNat)) s = ⟨(s.data.toList ++ l).toArray⟩
  | [], s => by simp
  | b :: l, s => by
    simp only [List.map_cons, List.foldl_cons]
    rw [foldl_push l]
    have : UInt8.ofNat ((b.toNat : Int)).toNat = b := by simp
    rw [this]
    simp [ByteArray.push]

theorem bytes_text {ys : List UInt8} {vx : Value} (ht : Tail G w C.P .y8 ys vx) (hs : ∃ base len cap, vx = .slice base len cap) : (Conv.bytesToString vx).run C.P w = .ok (.string ⟨ys.toArray⟩) w := by
  obtain ⟨base, len, cap, rfl⟩ := hs
  obtain ⟨t1, news, t2, t3, t4, t5⟩ := ht
  have hlen : len = ys.length := by
    simp only [Builtin.lenOf, Sem.run_pure, Result.ok.injEq] at t1
    exact t1.1
  subst hlen
  cases base with
  | none =>
    have h0 := t3 w rfl
    simp only [Builtin.firstCells, Sem.run_pure, Result.ok.injEq] at h0
    have hn : ys = [] := by
      rw [← h0.1] at t2
      exact List.eq_nil_of_length_eq_zero (by simpa [Ty.n] using t2.symm)
    subst hn
    rfl
  | some a =>
    have h0 := t3 w rfl
    have hnews : news = ((ys.map fun (b : UInt8) => (b.toNat : Int)).map (Value.int .u8)).toArray := by
      apply Array.ext_getElem?
      intro k
      by_cases hk : k < ys.length
      · have hy : ys[k]? = some ys[k] := List.getElem?_eq_getElem hk
        have hkn : k < news.size := by rw [t2]; simpa [Ty.n] using hk
        have hn : news[k]? = some news[k] := Array.getElem?_eq_getElem hkn
        have := t5 k ys[k] 0 _ _ hy rfl (by simp only [Ty.n, Nat.mul_one, Nat.add_zero]; exact hn)
        rw [hn]
        simp only [List.getElem?_toArray, List.getElem?_map, hy, Option.map_some]
        generalize news[k] = z at this
        cases this
        rfl
      · rw [Array.getElem?_eq_none (by rw [t2]; simp [Ty.n]; omega), Array.getElem?_eq_none (by simp; omega)]
    have hl : (loadCells a ys.length).run C.P w = .ok ((ys.map fun (b : UInt8) => (b.toNat : Int)).map (Value.int .u8)).toArray w := by
      rw [← hnews]
      have : (loadCells a (ys.length * 1)).run C.P w = .ok news w := h0
      rwa [Nat.mul_one] at this
    rw [run_bytesToString w a ys.length cap _ hl, foldl_push]
    rfl

theorem run_text_bytes {te : TypeId} (hte : C.P.underlying te = some (.int .u8)) (a : ByteArray) : ∃ cap, a.size ≤ cap ∧ (Conv.stringToBytes te a).run C.P w = .ok (.slice (some ⟨w.heap.size, 0, none⟩) a.size cap)
    ((w.drew.alloc (.cells (a.data.map (fun b => Value.int .u8 b.toNat) ++ Array.replicate (cap - a.size) (.int .u8 0)) te)).freeze ⟨w.heap.size, cap, none⟩ 1) := by
  refine ⟨grownCap w a.size 0 te, grownCap_ge w a.size 0 te, ?_⟩
  have hge := grownCap_ge w a.size 0 te
  have e1 : ({ w with drawn := w.drawn + 1 } : World) = w.drew := rfl
  unfold Conv.stringToBytes markStringish
  simp only [Sem.run_bind, run_choose, Question.forced, Bool.false_eq_true, if_false, Result.andThen_ok, newRow, run_newObj, Sem.run_pure, run_shape, e1]
  have hsh : (w.drew.alloc (.cells (a.data.map (fun b => Value.int .u8 b.toNat) ++ Array.replicate (grownCap w a.size 0 te - a.size) (.int .u8 0)) te)).shape? w.heap.size = some (te, grownCap w a.size 0 te) := by
    unfold World.shape?
    rw [show w.heap.size = w.drew.heap.size from rfl, heap_alloc_new]
    simp
    omega
  rw [show (({ heap := w.drew.heap.push (Obj.cells (a.data.map (fun b => Value.int .u8 b.toNat) ++ Array.replicate ((Question.appendCap a.size 0 te).cut (w.tape w.drawn (.appendCap a.size 0 te)) - a.size) (.int .u8 0)) te), tape := w.drew.tape, drawn := w.drew.drawn, os := w.drew.os, output := w.drew.output } : World)) = w.drew.alloc (.cells (a.data.map (fun b => Value.int .u8 b.toNat) ++ Array.replicate (grownCap w a.size 0 te - a.size) (.int .u8 0)) te) from rfl, show w.drew.heap.size = w.heap.size from rfl, hsh]
  simp [run_freeze]
  rfl

theorem new_rowG (hm : Mem G w h) {w1 w' : World} (hw1 : w1.heap = w.heap) (c : Array Value) (e : Ty) (xs : List e.den) (cap : Nat) (hcap : xs.length ≤ cap) (hsz : cap * e.n ≤ c.size)
    (he : e = .y8 ∨ ∀ k, (frz w' w1.heap.size k).1 = false) (hs1 : w'.heap.size = w1.heap.size + 1) (hold : ∀ b, b < w1.heap.size → (∀ o, cel w' b o = cel w1 b o ∧ frz w' b o = frz w1 b o) ∧ w'.heap[b]? = w1.heap[b]?)
    (hnew : ∀ k, k < c.size → cel w' w1.heap.size k = c[k]? ∧ (frz w' w1.heap.size k).1 = false)
    (hr : ∀ (j : Nat) (x : e.den) (k : Nat) (v : V) (val : Value), xs[j]? = some x → (e.leaves x)[k]? = some v → c[j * e.n + k]? = some val → Rel G w v val) (r : Result Next)
    (hrun : r = .ok (.value (.slice (some ⟨w.heap.size, 0, none⟩) xs.length cap)) w') (hrest' : Rest w1 w') (hrest1 : Rest w w1 := by exact ⟨rfl, rfl, rfl⟩) : Did G w r (.row h.length) (h ++ [.row e xs]) := by
  have hm1 := hm.of_heap hw1
  have hs : Subs G w1 (G.push w1.heap.size (.slice (some ⟨w1.heap.size, 0, none⟩) xs.length cap)) w' := sub_push hm1 _ (fun b o k => ((hold b k).1 o).1)
  have hob : Obj (G.push w1.heap.size (.slice (some ⟨w1.heap.size, 0, none⟩) xs.length cap)) w' h.length (.row e xs) := by
    refine .inr ⟨w1.heap.size, 0, cap, by rw [← hm.len]; exact Gh.push_new, hcap, fun k hk => ?_, fun j x k v hx hv => ?_⟩
    · have hk' : k < c.size := by omega
      obtain ⟨q1, q2⟩ := hnew k hk'
      refine ⟨by simp [Gh.push, hm.len], by rw [Nat.zero_add]; exact q2, by rw [Nat.zero_add, q1, Array.getElem?_eq_getElem hk']; rfl, he.imp id fun h k => ⟨by simp [Gh.push, hm.len], h k⟩⟩
    · have hin := in_row (Nat.lt_of_lt_of_le (elem_lt hx) hcap) (leaf_lt hv)
      have hk' : j * e.n + k < c.size := by omega
      refine ⟨c[j * e.n + k], by rw [Nat.zero_add, (hnew _ hk').1, Array.getElem?_eq_getElem hk'], ?_⟩
      exact ((hr j x k v _ hx hv (Array.getElem?_eq_getElem hk')).mono (Subs.of_heap hw1)).mono hs
  obtain ⟨h1, h2, h3⟩ := mem_push hm1 rfl hs1 hrest' (fun b o k => (hold b k).1 o) (fun b k => (hold b k).2) hob
  refine ⟨_, _, _, .inl hrun, ?_, h1, (Subs.of_heap hw1).trans h2, (Ext.of_heap hw1 hrest1).trans h3⟩
  rw [← hw1]
  exact .row _ _ (by rw [← hm.len]; exact Gh.push_new)

theorem freeze_world (w1 : World) (c : Array Value) (ty : TypeId) (n : Nat) : ((w1.alloc (.cells c ty)).freeze ⟨w1.heap.size, n, none⟩ 1).heap.size = w1.heap.size + 1 ∧
    (∀ b, b < w1.heap.size → ((w1.alloc (.cells c ty)).freeze ⟨w1.heap.size, n, none⟩ 1).heap[b]? = w1.heap[b]?) ∧ ((w1.alloc (.cells c ty)).freeze ⟨w1.heap.size, n, none⟩ 1).heap[w1.heap.size]? = some (.cells c ty (n, n + 1)) := by
  unfold World.freeze
  simp only [Nat.one_ne_zero, if_false]
  refine ⟨by rw [Array.size_modify]; exact World.size_alloc w1 _, fun b hb => ?_, ?_⟩
  · rw [Array.getElem?_modify, if_neg (by omega)]
    exact heap_alloc_old w1 _ b hb
  · rw [Array.getElem?_modify, if_pos rfl, heap_alloc_new]
    simp

theorem cel_of_heap {w w' : World} {b o : Nat} (h : w'.heap[b]? = w.heap[b]?) : cel w' b o = cel w b o ∧ frz w' b o = frz w b o := ⟨by simp only [cel, World.cell?, h], by simp only [frz, mpo, World.frozen?, h]⟩
theorem cel_row {w : World} {b k : Nat} {c : Array Value} {t : TypeId} {f : Nat × Nat} (h : w.heap[b]? = some (.cells c t f)) : cel w b k = c[k]? := by
  simp [cel, World.cell?, h]
theorem frz_row {w : World} {b k n : Nat} {c : Array Value} {t : TypeId} (h : w.heap[b]? = some (.cells c t (n, n + 1))) (hk : k < n) : (frz w b k).1 = false := by
  simp only [frz, World.frozen?, h]
  simp
  omega
theorem text_row {te : TypeId} (hte : C.P.underlying te = some (.int .u8)) (a : ByteArray) : ∃ cap W, a.size ≤ cap ∧ (Conv.stringToBytes te a).run C.P w = .ok (.slice (some ⟨w.heap.size, 0, none⟩) a.size cap) W ∧
    Rest w W ∧ W.heap.size = w.heap.size + 1 ∧ (∀ b, b < w.heap.size → W.heap[b]? = w.heap[b]?) ∧ W.heap[w.heap.size]? = some (.cells (a.data.map (fun b => Value.int .u8 b.toNat) ++ Array.replicate (cap - a.size) (.int .u8 0)) te (cap, cap + 1)) := by
  obtain ⟨cap, hcap, hrun⟩ := run_text_bytes (C := C) (w := w) hte a
  obtain ⟨f1, f2, f3⟩ := freeze_world w.drew (a.data.map (fun b => Value.int .u8 b.toNat) ++ Array.replicate (cap - a.size) (.int .u8 0)) te cap
  exact ⟨cap, _, hcap, hrun, ⟨rfl, rfl, rfl⟩, f1, f2, f3⟩

theorem slice_form {x : V} {vx : Value} (hx : Rel G w x vx) (hm : Mem G w h) {e : Ty} {ys : List e.den} (ha : asL e (imm1 h x) = some ys) : ∃ base len cap, vx = .slice base len cap := by
  obtain ⟨G1, _, _, _, f4⟩ := fro1_ok hm hx
  have := asL_rel ha f4
  cases this with
  | lnil => exact ⟨_, _, _, rfl⟩
  | l _ _ b o cap _ _ _ _ => exact ⟨_, _, _, rfl⟩

theorem conv_ok (hm : Mem G w h) (src dst : TypeId) {x : V} {vx : Value} (hx : Rel G w x vx) {ds : TypeDesc} (hsrc : C.P.underlying src = some ds) :
    OutOk G w ((do let r ← convert src dst vx; pure (.value r) : Sem Next).run C.P w) (convV C h src dst x) := by
  unfold convV
  split
  · rename_i k k' n hd
    cases hx
    refine Did.pure hm (Rel.wrap k n) ?_
    unfold convert
    simp only [Sem.run_bind, run_underlying hsrc, run_underlying hd, Result.andThen_ok, Conv.intToInt, Sem.run_pure]
  · rename_i k' n hd
    cases hx
    refine Did.pure hm (.f _) ?_
    unfold convert
    simp only [Sem.run_bind, run_underlying hsrc, run_underlying hd, Result.andThen_ok, Conv.intToFloat, Sem.run_pure]
  · rename_i a hd
    cases hx
    refine Did.pure hm (.s a) ?_
    unfold convert
    simp only [Sem.run_bind, run_underlying hsrc, run_underlying hd, Result.andThen_ok, Sem.run_pure]
  · rename_i v hd hns
    split
    · rename_i te hte
      split
      · rename_i xs hu8 ha
        obtain ⟨base, len, cap, rfl⟩ := slice_form hx hm ha
        have ht := tail_ok (C := C) hm hx (ys := xs) (e := .y8) (by
          unfold tailV
          split
          · exact absurd rfl (hns _)
          · exact ha)
        have hb := bytes_text (C := C) ht ⟨base, len, cap, rfl⟩
        refine Did.pure hm (.s _) ?_
        simp only [Sem.run_bind, run_convert_bytes_string w src dst te base len cap (elem_run hte) hu8 hd, hb, Result.andThen_ok, Sem.run_pure]
      · trivial
    · trivial
  · rename_i te a hd
    split
    · rename_i hu8
      cases hx
      obtain ⟨cap, W, hcap, hrun, f0, f1, f2, f3⟩ := text_row (C := C) (w := w) hu8 a
      have hsz : (a.data.map (fun (b : UInt8) => Value.int .u8 b.toNat) ++ Array.replicate (cap - a.size) (Value.int .u8 0)).size = cap := by
        simp only [Array.size_append, Array.size_map, Array.size_replicate]
        have : a.data.size = a.size := rfl
        omega
      have hlen : a.data.toList.length = a.size := by simp
      refine new_rowG hm (w1 := w) rfl (a.data.map (fun (b : UInt8) => Value.int .u8 b.toNat) ++ Array.replicate (cap - a.size) (Value.int .u8 0)) .y8 a.data.toList cap (by omega) (by rw [hsz]; simp [Ty.n]) (.inl rfl) f1 (fun b hb => ⟨fun o => cel_of_heap (f2 b hb), f2 b hb⟩) (fun k hk => ?_) (fun j y k v val hy hv hval => ?_) _ ?_ f0
      · rw [hsz] at hk
        exact ⟨cel_row f3, frz_row f3 hk⟩
      · have hk : k = 0 := by have := leaf_lt hv; simp [Ty.n] at this; exact this
        subst hk
        have hj : j < a.size := by have := elem_lt hy; omega
        simp only [Ty.n, Nat.mul_one, Nat.add_zero] at hval
        simp only [Ty.leaves, List.getElem?_cons_zero, Option.some.injEq] at hv
        subst hv
        rw [Array.getElem?_append_left (by simp; exact hj)] at hval
        rw [Array.getElem?_toList] at hy
        simp only [Array.getElem?_map, hy, Option.map_some, Option.some.injEq] at hval
        subst hval
        have := UInt8.toNat_lt y
        exact .i _ _ fun _ => by omega
      · unfold convert
        simp only [Sem.run_bind, run_underlying hsrc, run_underlying hd, run_underlying hu8, Result.andThen_ok, hrun, Sem.run_pure, hlen]
    · trivial
  · trivial
end
end Go.Pv
