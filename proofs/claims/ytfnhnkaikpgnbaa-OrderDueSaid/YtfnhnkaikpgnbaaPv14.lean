/- The engine, part 14: functions. -/
import Derived.Test.YtfnhnkaikpgnbaaPv13
namespace Go.Pv
open Go
set_option linter.all false
set_option linter.constructorNameAsVariable false
set_option linter.unusedSectionVars false
set_option linter.unusedVariables false
set_option linter.unusedSimpArgs false

section
variable {C : Cfg} {n : Nat} {T : List (Nat × Spec)} {L : List (Nat × LSpec)}

theorem loadV_val {G : Gh C.gl} {w : World} {h : List Ob} (hm : Mem G w h) {t : TypeId} {a v : V} {h' : List Ob} {va : Value} (hl : loadV C h t a = .val v h') (hx : Rel G w a va) : ∃ val, (Instr.loadAt t va).run C.P w = .ok val w ∧ Rel G w v val := by
  have := load_okP (C := C) hm t hx
  rw [hl] at this
  obtain ⟨val, h1, h2⟩ := this
  refine ⟨val, ?_, h2⟩
  simp only [Sem.run_bind] at h1
  cases hr : (Instr.loadAt t va).run C.P w with
  | ok u w' =>
    rw [hr] at h1
    simp only [Result.andThen_ok, Sem.run_pure, Result.ok.injEq, Next.value.injEq] at h1
    obtain ⟨rfl, rfl⟩ := h1
    rfl
  | halt x w' => rw [hr] at h1; cases h1

def readRes (tmps : Array Value) : ResultVar → Sem Value
  | .tmp t => pure (tmps.getD t undef)
  | .cell a t => do loadVar t (← asAddr (tmps.getD a undef))

theorem resV_ok {D : List Deferred} {G : Gh C.gl} {s : St} {a : Act} {w : World} (h : Abs D n G s a w) : ∀ (rs : List ResultVar) {vs : List V}, resV C s rs = some vs → ∃ vals : List Value, (rs.mapM (readRes a.tmps)).run C.P w = .ok vals w ∧ Rels G w vs vals
  | [], vs, hr => by
    simp only [resV, Option.some.injEq] at hr
    subst hr
    exact ⟨[], rfl, Rels.nil⟩
  | .tmp t :: r, vs, hr => by
    simp only [resV] at hr
    obtain ⟨us, hu, rfl⟩ := Option.map_eq_some_iff.1 hr
    obtain ⟨vals, k1, k2⟩ := resV_ok h r hu
    refine ⟨a.tmps.getD t undef :: vals, ?_, Rels.cons (h.env t) k2⟩
    simp only [List.mapM_cons, readRes, Sem.run_bind, Sem.run_pure, Result.andThen_ok]
    rw [k1]
    rfl
  | .cell p t :: r, vs, hr => by
    simp only [resV] at hr
    split at hr
    · rename_i v h' hl
      obtain ⟨us, hu, rfl⟩ := Option.map_eq_some_iff.1 hr
      obtain ⟨vals, k1, k2⟩ := resV_ok h r hu
      obtain ⟨val, q1, q2⟩ := loadV_val h.mem hl (h.env p)
      have hptr : ∃ ad, a.tmps.getD p undef = .pointer (some ad) := by
        have hp := h.env p
        unfold loadV at hl
        split at hl
        · cases hlp : look p s.env <;> rw [hlp] at hl hp <;> first
            | (dsimp only at hl; cases hl; done)
            | (clear hl; generalize a.tmps.getD p undef = z at hp; cases hp; exact ⟨_, rfl⟩)
        · cases hl
      obtain ⟨ad, had⟩ := hptr
      refine ⟨val :: vals, ?_, Rels.cons q2 k2⟩
      rw [had] at q1
      have q3 : (loadVar t ad).run C.P w = .ok val w := q1
      simp only [List.mapM_cons, readRes, had, asAddr, Sem.run_bind, Sem.run_pure, Result.andThen_ok, q3]
      rw [k1]
      rfl
    · cases hr

theorem results_run {fn : Func} {tmps : Array Value} {w : World} {vals : List Value} (h : (fn.results.toList.mapM (readRes tmps)).run C.P w = .ok vals w) : (results fn tmps).run C.P w = .ok (if h : vals.toArray.size = 1 then vals.toArray[0] else .tuple vals.toArray) w := by
  unfold results
  rw [Array.mapM_eq_mapM_toList]
  show (do let vs ← List.toArray <$> fn.results.toList.mapM (readRes tmps); pure (if h : vs.size = 1 then vs[0] else .tuple vs) : Sem Value).run C.P w = _
  simp only [Sem.run_bind, Sem.run_map, h, Result.andThen_ok, Sem.run_pure]

def ρOf (G : Gh C.gl) : Option Nat → Value
  | some id => G.ρ.getD id (.bool false)
  | none => .slice none 0 0

theorem tup_rel {G : Gh C.gl} {w : World} {vs : List V} {vals : List Value} (h : Rels G w vs vals) : Rel G w (tupV vs) (if h : vals.toArray.size = 1 then vals.toArray[0] else .tuple vals.toArray) := by
  obtain ⟨hl, hr⟩ := h
  match vs, vals, hl, hr with
  | [v], [val], hl, hr => exact hr 0 v val rfl rfl
  | [], [], hl, hr => exact .tup [] #[] rfl (fun k c v hc => by simp at hc)
  | v :: u :: vs, vals, hl, hr =>
    have hne : ¬ vals.toArray.size = 1 := by simp at hl ⊢; omega
    rw [dif_neg hne]
    refine .tup _ vals.toArray (by simpa using hl.symm) (fun k c x hc hx => hr k c x hc (by simpa using hx))

theorem flat_any : ∀ (t : Ty) (x : t.den), t.flat = true → ∀ v, v ∈ t.leaves x → ∀ {G Gt : Gh C.gl} {w w' : World} {val : Value}, Rel G w v val → Rel Gt w' v val
  | .b, x, _, v, h, G, Gt, w, w', val, hr => by simp [Ty.leaves] at h; subst h; cases hr; exact .b _
  | .y8, x, _, v, h, G, Gt, w, w', val, hr => by simp [Ty.leaves] at h; subst h; cases hr with | i _ _ q => exact .i _ _ q
  | .i k, x, _, v, h, G, Gt, w, w', val, hr => by simp [Ty.leaves] at h; subst h; cases hr with | i _ _ q => exact .i _ _ q
  | .s, x, _, v, h, G, Gt, w, w', val, hr => by simp [Ty.leaves] at h; subst h; cases hr; exact .s _
  | .l e, x, hf, v, h, G, Gt, w, w', val, hr => by simp [Ty.flat] at hf
  | .ex, x, hf, v, h, G, Gt, w, w', val, hr => by simp [Ty.flat] at hf
  | .c, x, _, v, h, G, Gt, w, w', val, hr => by simp [Ty.leaves] at h; subst h; cases hr; exact .c _ _
  | .p t1 t2, x, hf, v, h, G, Gt, w, w', val, hr => by
    simp only [Ty.flat, Bool.and_eq_true] at hf
    simp only [Ty.leaves, List.mem_append] at h
    rcases h with h | h
    · exact flat_any t1 _ hf.1 v h hr
    · exact flat_any t2 _ hf.2 v h hr
  | .w t1, x, hf, v, h, G, Gt, w, w', val, hr => flat_any t1 x hf v h hr

theorem flat_val {t : Ty} (ht : t.flat = true) (x : t.den) {G Gt : Gh C.gl} {w w' : World} {val : Value} (hr : Rel G w (t.val x) val) : Rel Gt w' (t.val x) val := by
  cases ha : t.agg with
  | true =>
    rw [Ty.val_agg ha] at hr ⊢
    cases hr with
    | agg _ vals hl hrr => exact .agg _ vals hl (fun k c v hc hv => flat_any t x ht c (List.mem_of_getElem? hc) (hrr k c v hc hv))
  | false =>
    obtain ⟨u, h1, h2⟩ := Ty.val_one ha x
    rw [h2] at hr ⊢
    exact flat_any t x ht u (by rw [h1]; exact List.mem_singleton.2 rfl) hr

theorem flat_rels (j j' : Nat) {G Gt : Gh C.gl} {w w' : World} : ∀ (shs : List Sh) (x : shsDen shs) {vals : List Value}, shs.all Sh.flat = true → Rels G w (shsMk j shs x).1 vals → Rels Gt w' (shsMk j' shs x).1 vals
  | [], x, vals, hf, hr => by
    have : vals = [] := List.eq_nil_of_length_eq_zero hr.1.symm
    subst this
    exact Rels.nil
  | s :: r, x, vals, hf, hr => by
    simp only [List.all_cons, Bool.and_eq_true] at hf
    cases s with
    | t τ =>
      cases vals with
      | nil => have := hr.1; simp [shsMk] at this
      | cons val vals => exact Rels.cons (flat_val hf.1 x.1 hr.head) (flat_rels j j' r x.2 hf.2 hr.tail)
    | _ => simp [Sh.flat] at hf

theorem upd_bare : ∀ (shs : List Sh), shs.all Sh.bare = true → shsUpd shs = []
  | [], _ => rfl
  | s :: r, h => by
    simp only [List.all_cons, Bool.and_eq_true] at h
    cases s <;> first | exact upd_bare r h.2 | (simp [Sh.bare] at h; done)

theorem apart_right {o o' : List (Option Nat)} {b b' : List Nat} (h : apartB (o ++ o') (b ++ b') = true) : apartB o b = true := by
  have hs : ∀ (o o' : List (Option Nat)), somes (o ++ o') = somes o ++ somes o' := by
    intro o o'
    induction o with
    | nil => rfl
    | cons i r ih => cases i <;> simp [somes, ih]
  have hn : ∀ (l l' : List Nat), nodupB (l ++ l') = true → nodupB l = true := by
    intro l l'
    induction l with
    | nil => intro _; rfl
    | cons x r ih =>
      intro h
      simp only [List.cons_append, nodupB, Bool.and_eq_true] at h ⊢
      refine ⟨List.all_eq_true.2 fun y hy => List.all_eq_true.1 h.1 y (List.mem_append_left _ hy), ih h.2⟩
  unfold apartB at *
  rw [Bool.and_eq_true] at h ⊢
  rw [hs] at h
  refine ⟨hn _ _ h.1, List.all_eq_true.2 fun x hx => List.all_eq_true.2 fun y hy => ?_⟩
  exact List.all_eq_true.1 (List.all_eq_true.1 h.2 x (List.mem_append_left _ hx)) y (List.mem_append_left _ hy)

theorem look_args {vs : List V} (t : Nat) : look t ((List.range vs.length).zip vs) = (vs[t]?).getD .u := by
  have key : ∀ (i : Nat) (vs : List V), look t ((List.range' i vs.length).zip vs) = if i ≤ t then (vs[t - i]?).getD .u else .u := by
    intro i vs
    induction vs generalizing i with
    | nil => simp [look]
    | cons v vs ih =>
      rw [List.length_cons, List.range'_succ, List.zip_cons_cons, look_cons, ih]
      by_cases h : i = t
      · subst h
        rw [if_pos rfl, if_pos (Nat.le_refl _)]
        simp
      · rw [if_neg h]
        by_cases h2 : i ≤ t
        · rw [if_pos (by omega), if_pos h2, show t - i = (t - (i + 1)) + 1 by omega, List.getElem?_cons_succ]
        · rw [if_neg (by omega), if_neg h2]
  have := key 0 vs
  rw [← List.range_eq_range'] at this
  simpa using this

theorem upd_empty : ∀ (shs : List Sh) (vals : List Value), shsUpd shs = [] → updVals shs vals = [] ∨ ∃ s, s ∈ shs ∧ s.noFn = false
  | [], vals, h => by left; cases vals <;> rfl
  | s :: r, [], h => by left; cases s <;> rfl
  | s :: r, v :: vals, h => by
    cases s with
    | fn f k => exact .inr ⟨_, List.mem_cons_self .., rfl⟩
    | mrow e => simp [shsUpd] at h
    | ptr fs => simp [shsUpd] at h
    | _ =>
      simp only [shsUpd] at h
      rcases upd_empty r vals h with k | ⟨s, h1, h2⟩
      · left; simp only [updVals]; exact k
      · exact .inr ⟨s, List.mem_cons_of_mem _ h1, h2⟩

/-- The values of what is handed back: none, where nothing is. -/
theorem upd_none : ∀ (m : Nat) (shs : List Sh) (vals : List Value), shs.length ≤ m → shsUpd shs = [] → updVals shs vals = []
  | _, [], vals, _, h => by cases vals <;> rfl
  | 0, s :: r, vals, hm, h => by simp at hm
  | m + 1, s :: r, [], hm, h => by cases s <;> rfl
  | m + 1, s :: r, v :: vals, hm, h => by
    have hr : r.length ≤ m := by simpa using hm
    cases s with
    | fn f k =>
      simp only [shsUpd] at h
      cases v <;> (simp only [updVals]; exact upd_none m r _ hr h)
    | mrow e => simp [shsUpd] at h
    | ptr fs => simp [shsUpd] at h
    | _ =>
      simp only [shsUpd] at h
      simp only [updVals]
      exact upd_none m r vals hr h

/-- The slots that were kept tell what is handed back. -/
theorem upd_kept {G : Gh C.gl} {w : World} : ∀ (shs : List Sh) (us : List V) (ux : List Value) (i : Nat) (vs : List V) (vals : List Value), fnOk shs (us ++ vs) = true → us.length = ux.length → vs.length = vals.length →
    (∀ (k : Nat) (v : V) (x : Value), us[k]? = some v → ux[k]? = some x → Rel G w v x) →
    (∀ (k : Nat) (v : V) (x : Value), i + k ∈ kpG us.length i shs → vs[k]? = some v → vals[k]? = some x → Rel G w v x) → Rels G w (shsUpdV shs (us ++ vs)) (updVals shs (ux ++ vals))
  | [], us, ux, i, vs, vals, hf, hlu, hl, hu, h => by
    have e1 : shsUpdV [] (us ++ vs) = [] := by cases us ++ vs <;> rfl
    have e2 : updVals [] (ux ++ vals) = [] := by cases ux ++ vals <;> rfl
    rw [e1, e2]; exact Rels.nil
  | s :: r, [], [], i, [], [], hf, hlu, hl, hu, h => by
    have e1 : shsUpdV (s :: r) [] = [] := by cases s <;> rfl
    have e2 : updVals (s :: r) [] = [] := by cases s <;> rfl
    rw [List.nil_append, List.nil_append, e1, e2]; exact Rels.nil
  | s :: r, [], [], i, [], x :: vals, hf, hlu, hl, hu, h => by simp at hl
  | s :: r, [], [], i, v :: vs, [], hf, hlu, hl, hu, h => by simp at hl
  | s :: r, [], x :: ux, i, vs, vals, hf, hlu, hl, hu, h => by simp at hlu
  | s :: r, u :: us, [], i, vs, vals, hf, hlu, hl, hu, h => by simp at hlu
  | s :: r, u :: us, x :: ux, i, vs, vals, hf, hlu, hl, hu, h => by
    have hlu' : us.length = ux.length := by simpa using hlu
    have h0 : Rel G w u x := hu 0 u x rfl rfl
    have ht : ∀ (k : Nat) (v : V) (y : Value), us[k]? = some v → ux[k]? = some y → Rel G w v y := fun k v y a b => hu (k + 1) v y (by simpa using a) (by simpa using b)
    rw [List.cons_append, List.cons_append]
    rw [List.cons_append] at hf
    cases s with
    | fn f k =>
      cases h0 with
      | fn f' cs caps hcl hcr =>
        simp only [fnOk, Bool.and_eq_true] at hf
        have hk : cs.length = k := Nat.eq_of_beq_eq_true hf.1
        simp only [shsUpdV, updVals]
        rw [← List.append_assoc, ← List.append_assoc]
        refine upd_kept r (cs ++ us) (caps.toList ++ ux) i vs vals (by rw [List.append_assoc]; exact hf.2) (by simp [hcl, hlu']) hl (fun j v y a b => ?_) (fun j v y hm a b => h j v y ?_ a b)
        · rcases Nat.lt_or_ge j cs.length with hj | hj
          · rw [List.getElem?_append_left hj] at a
            rw [List.getElem?_append_left (by simpa [hcl] using hj)] at b
            exact hcr j v y a (by simpa using b)
          · rw [List.getElem?_append_right hj] at a
            rw [List.getElem?_append_right (by simpa [hcl] using hj)] at b
            exact ht (j - cs.length) v y a (by simpa [hcl] using b)
        · simp only [List.length_cons, kpG]
          rwa [List.length_append, hk] at hm
      | _ => simp [fnOk] at hf
    | mrow e =>
      simp only [fnOk] at hf
      simp only [shsUpdV, updVals]
      exact Rels.cons h0 (upd_kept r us ux i vs vals hf hlu' hl ht fun j v y hm a b => h j v y (by simpa only [List.length_cons, kpG] using hm) a b)
    | ptr fs =>
      simp only [fnOk] at hf
      simp only [shsUpdV, updVals]
      exact Rels.cons h0 (upd_kept r us ux i vs vals hf hlu' hl ht fun j v y hm a b => h j v y (by simpa only [List.length_cons, kpG] using hm) a b)
    | _ =>
      simp only [fnOk] at hf
      simp only [shsUpdV, updVals]
      exact upd_kept r us ux i vs vals hf hlu' hl ht fun j v y hm a b => h j v y (by simpa only [List.length_cons, kpG] using hm) a b
  | s :: r, [], [], i, v :: vs, x :: vals, hf, hlu, hl, hu, h => by
    have hl' : vs.length = vals.length := by simpa using hl
    have shift : ∀ (sk : Nat), (∀ k, i + 1 + k ∈ kpG sk (i + 1) r → i + (k + 1) ∈ kpG 0 i (s :: r)) → ∀ (k : Nat) (v' : V) (x' : Value), i + 1 + k ∈ kpG sk (i + 1) r → vs[k]? = some v' → vals[k]? = some x' → Rel G w v' x' := fun sk hk k v' x' hm a b =>
      h (k + 1) v' x' (hk k hm) (by simpa using a) (by simpa using b)
    rw [List.nil_append, List.nil_append]
    rw [List.nil_append] at hf
    cases s with
    | fn f k =>
      have h0 : Rel G w v x := h 0 v x (by simp [kpG]) rfl rfl
      cases h0 with
      | fn f' cs caps hcl hcr =>
        simp only [fnOk, Bool.and_eq_true] at hf
        have hk : cs.length = k := Nat.eq_of_beq_eq_true hf.1
        simp only [shsUpdV, updVals]
        refine upd_kept r cs caps.toList (i + 1) vs vals hf.2 (by simp [hcl]) hl' (fun j v y a b => hcr j v y a (by simpa using b)) ?_
        rw [hk]
        refine shift k fun j hm => ?_
        simp only [kpG, List.mem_cons]
        exact .inr (by rwa [show i + (j + 1) = i + 1 + j by omega])
      | _ => simp [fnOk] at hf
    | mrow e =>
      simp only [fnOk] at hf
      simp only [shsUpdV, updVals]
      refine Rels.cons (h 0 v x (by simp [kpG]) rfl rfl) (upd_kept r [] [] (i + 1) vs vals hf rfl hl' (fun j v y a b => by simp at a) (shift 0 fun j hm => ?_))
      simp only [kpG, List.mem_cons]
      exact .inr (by rwa [show i + (j + 1) = i + 1 + j by omega])
    | ptr fs =>
      simp only [fnOk] at hf
      simp only [shsUpdV, updVals]
      refine Rels.cons (h 0 v x (by simp [kpG]) rfl rfl) (upd_kept r [] [] (i + 1) vs vals hf rfl hl' (fun j v y a b => by simp at a) (shift 0 fun j hm => ?_))
      simp only [kpG, List.mem_cons]
      exact .inr (by rwa [show i + (j + 1) = i + 1 + j by omega])
    | _ =>
      simp only [fnOk] at hf
      simp only [shsUpdV, updVals]
      refine upd_kept r [] [] (i + 1) vs vals hf rfl hl' (fun j v y a b => by simp at a) (shift 0 fun j hm => ?_)
      simp only [kpG]
      rwa [show i + (j + 1) = i + 1 + j by omega]

theorem kill_length : ∀ (l : List Nat) (h : List Ob), (kill h l).length = h.length
  | [], h => rfl
  | i :: r, h => by simp only [kill]; rw [kill_length r, setn_eq, List.length_set]
theorem kill_get : ∀ (l : List Nat) (h : List Ob) (id : Nat) (ob : Ob), (kill h l)[id]? = some ob → (ob = .dead ∧ id < h.length) ∨ (id ∉ l ∧ h[id]? = some ob)
  | [], h, id, ob, hk => .inr ⟨by simp, hk⟩
  | i :: r, h, id, ob, hk => by
    simp only [kill] at hk
    rcases kill_get r _ id ob hk with ⟨k1, k2⟩ | ⟨k1, k2⟩
    · exact .inl ⟨k1, by rwa [setn_eq, List.length_set] at k2⟩
    · rw [setn_eq] at k2
      by_cases he : i = id
      · subst he
        have hlt : i < h.length := by have := (List.getElem?_eq_some_iff.1 k2).1; simpa using this
        rw [List.getElem?_set_self hlt] at k2
        injection k2 with k2
        exact .inl ⟨k2.symm, hlt⟩
      · rw [List.getElem?_set_ne he] at k2
        exact .inr ⟨fun hm => (List.mem_cons.1 hm).elim (fun e => he e.symm) k1, k2⟩

theorem somes_pos : ∀ {o : List (Option Nat)} {id : Nat}, id ∉ somes o → pos o id = none := by
  intro o id h
  cases hp : pos o id with
  | none => rfl
  | some k => exact absurd (mem_somes (pos_some hp)) h

/-- Behind a call: the caller's memory and the callee's, joined. -/
theorem merge {G Gs : Gh C.gl} {w w' : World} {h hs' : List Ob} {ins outs : List Sh} {o : List (Option Nat)} (hm : Mem G w h) (hms : Mem Gs w' hs') (hx : Ext (G.of o []) w Gs w') {us rs : List V} {uvals rvals : List Value} {y : shsDen outs} {z : shsDen (shsUpd ins)} {o1 o2 : List (Option Nat)} {b1 b2 : List Nat}
    (hr1 : shsRd hs' outs rs = some (y, o1, b1)) (hr2 : shsRd hs' (shsUpd ins) us = some (z, o2, b2)) (hap : apartB (o2 ++ o1) (b2 ++ b1) = true) (hu : Rels Gs w' us uvals) (hv : Rels Gs w' rs rvals) :
    ∃ G', Mem G' w' (kill h (somes o) ++ ((shsMk h.length (shsUpd ins) z).2 ++ (shsMk (h.length + (shsMk h.length (shsUpd ins) z).2.length) outs y).2)) ∧ Rels G' w' (shsMk (h.length + (shsMk h.length (shsUpd ins) z).2.length) outs y).1 rvals ∧ Rels G' w' (shsMk h.length (shsUpd ins) z).1 uvals ∧ Subs G w G' w' ∧ Ext G w G' w' := by
  unfold apartB at hap
  rw [Bool.and_eq_true] at hap
  obtain ⟨hnd, hap2⟩ := hap
  let G' : Gh C.gl := ⟨G.ρ ++ (o2 ++ o1).map (ρOf Gs),
    fun b' o' => match (match Gs.ow b' o' with | some id => pos (o2 ++ o1) id | none => none) with
      | some k => some (h.length + k)
      | none => (match G.ow b' o' with | some id => (if id ∈ somes o then none else some id) | none => none),
    fun b' o' => Gs.I b' o' ∨ ∃ id, id ∈ b2 ++ b1 ∧ Gs.ow b' o' = some id⟩
  have hGow : ∀ b' o', G'.ow b' o' = match (match Gs.ow b' o' with | some id => pos (o2 ++ o1) id | none => none) with
      | some k => some (h.length + k)
      | none => (match G.ow b' o' with | some id => (if id ∈ somes o then none else some id) | none => none) := fun _ _ => rfl
  -- what the callee did not own
  have hout : ∀ b' o', b' < w.heap.size → (∀ id, G.ow b' o' = some id → id ∉ somes o) → Gs.ow b' o' = none ∧ cel w' b' o' = cel w b' o' ∧ frz w' b' o' = frz w b' o' := by
    intro b' o' hlt hno
    refine hx.cell b' o' hlt ?_
    simp only [Gh.of]
    split
    · rename_i id hid
      exact somes_pos (hno id hid)
    · rfl
  have hown : ∀ b' o' id, Gs.ow b' o' = some id → b' < w.heap.size → ∃ i, G.ow b' o' = some i ∧ i ∈ somes o := by
    intro b' o' id k hlt
    cases hg : G.ow b' o' with
    | none =>
      have := (hout b' o' hlt (fun i e => by rw [hg] at e; cases e)).1
      rw [k] at this
      cases this
    | some i =>
      by_cases hi : i ∈ somes o
      · exact ⟨i, rfl, hi⟩
      · have := (hout b' o' hlt (fun i' e => by rw [hg] at e; injection e with e; subst e; exact hi)).1
        rw [k] at this
        cases this
  have hGnone : ∀ b' o', w.heap.size ≤ b' → G.ow b' o' = none := by
    intro b' o' hge
    cases hg : G.ow b' o' with
    | none => rfl
    | some id => have := (hm.ow _ _ _ hg).2; omega
  have hρ : ρAt Gs G' h.length (o2 ++ o1) := by
    intro k i hk
    have hidx : (G.ρ ++ (o2 ++ o1).map (ρOf Gs))[h.length + k]? = some (ρOf Gs i) := by
      rw [List.getElem?_append_right (by rw [hm.len]; omega), hm.len, show h.length + k - h.length = k by omega, List.getElem?_map, hk]
      rfl
    cases i with
    | some id =>
      intro v hid
      show (G.ρ ++ _)[h.length + k]? = some v
      rw [hidx]
      simp only [ρOf]
      rw [List.getD_eq_getElem?_getD, hid]
      rfl
    | none => exact hidx
  have how : owAt Gs G' h.length (o2 ++ o1) := by
    intro k id hk b' o' k2'
    rw [hGow, k2']
    dsimp only
    rw [pos_of hnd hk]
  obtain ⟨d1, d2, d3⟩ := shsRd_ok (Gt := G') hms (fun _ _ k => .inl k) (shsUpd ins) hr2 hu (fun id hid b' o' k => .inr ⟨id, List.mem_append_left _ hid, k⟩) h.length hρ.left how.left
  obtain ⟨e1, e2, e3⟩ := shsRd_ok (Gt := G') hms (fun _ _ k => .inl k) outs hr1 hv (fun id hid b' o' k => .inr ⟨id, List.mem_append_right _ hid, k⟩) (h.length + (shsMk h.length (shsUpd ins) z).2.length) (by rw [d2]; exact hρ.right) (by rw [d2]; exact how.right)
  have hIG : ∀ b' o', G.I b' o' → G'.I b' o' := fun b' o' k => .inl (hx.I b' o' (.inl k))
  have hs : Subs G w G' w' := ⟨fun b' o' k => ⟨hIG b' o' k, (hout b' o' (hm.I _ _ k).2 (fun id e => by rw [(hm.I _ _ k).1] at e; cases e)).2.1⟩, fun id v k => by
    have := (List.getElem?_eq_some_iff.1 k).1
    show (G.ρ ++ _)[id]? = some v
    rw [List.getElem?_append_left this]
    exact k⟩
  have hkeep : ∀ b' o' id, G.ow b' o' = some id → id ∉ somes o → G'.ow b' o' = some id ∧ cel w' b' o' = cel w b' o' ∧ frz w' b' o' = frz w b' o' := by
    intro b' o' id k hno
    obtain ⟨q1, q2⟩ := hout b' o' (hm.ow _ _ _ k).2 (fun i e => by rw [k] at e; injection e with e; subst e; exact hno)
    refine ⟨?_, q2⟩
    rw [hGow, q1]
    dsimp only
    rw [k]
    dsimp only
    rw [if_neg hno]
  have hIof : ∀ b' o', (G.of o []).I b' o' → G.I b' o' := by
    rintro b' o' (k | ⟨id, hid, _⟩)
    · exact k
    · cases hid
  have hOof : ∀ b' o', (G.of o []).ow b' o' ≠ none → ∃ i, G.ow b' o' = some i ∧ i ∈ somes o := by
    intro b' o' k
    simp only [Gh.of] at k
    split at k
    · rename_i id hid
      by_cases hi : id ∈ somes o
      · exact ⟨id, hid, hi⟩
      · exact absurd (somes_pos hi) k
    · exact absurd rfl k
  refine ⟨G', ⟨?_, fun id v k => ?_, fun id ob hi => ?_, fun b' o' k => ?_, fun b' o' id k => ?_, gl_sub hs hm.gl⟩, e1, d1, hs, ⟨hIG, hx.size, fun b' o' hb' k => ?_, fun b' hb' k => ?_, fun b' o' hb' k => ?_, hx.rest⟩⟩
  · show (G.ρ ++ (o2 ++ o1).map _).length = _
    rw [List.length_append, List.length_map, List.length_append, List.length_append, List.length_append, kill_length, hm.len, e2, d2]
  · have k : (G.ρ ++ (o2 ++ o1).map (ρOf Gs))[id]? = some v := k
    rcases Nat.lt_or_ge id G.ρ.length with hlt | hge
    · rw [List.getElem?_append_left hlt] at k
      exact hm.one _ _ k
    · rw [List.getElem?_append_right hge, List.getElem?_map, Option.map_eq_some_iff] at k
      obtain ⟨i, k1', k2'⟩ := k
      cases i with
      | some id' =>
        simp only [ρOf] at k2'
        rw [List.getD_eq_getElem?_getD] at k2'
        cases hg : Gs.ρ[id']? with
        | some v' => rw [hg] at k2'; simp at k2'; rw [← k2']; exact hms.one _ _ hg
        | none => rw [hg] at k2'; simp at k2'; rw [← k2']; rfl
      | none => rw [← k2']; rfl
  · rcases Nat.lt_or_ge id h.length with hlt | hge
    · rw [List.getElem?_append_left (by rw [kill_length]; exact hlt)] at hi
      rcases kill_get _ _ _ _ hi with ⟨rfl, _⟩ | ⟨hno, hi⟩
      · have : id < G.ρ.length := by rw [hm.len]; exact hlt
        exact ⟨G.ρ[id], hs.ρ _ _ (List.getElem?_eq_getElem this)⟩
      · exact Obj.keep hs (fun b' o' k => hkeep b' o' id k hno) (hm.obj _ _ hi)
    · rw [List.getElem?_append_right (by rw [kill_length]; exact hge), kill_length] at hi
      have := Objs.app d3 e3 _ ob hi
      rwa [show h.length + (id - h.length) = id by omega] at this
  · rw [hGow]
    have hold : G.ow b' o' = none ∨ (∃ i, G.ow b' o' = some i ∧ i ∈ somes o) → (match G.ow b' o' with | some id => (if id ∈ somes o then none else some id) | none => none) = (none : Option Nat) := by
      rintro (e | ⟨i, e, hi⟩)
      · rw [e]
      · rw [e]; dsimp only; rw [if_pos hi]
    rcases k with k | ⟨id, hid, k⟩
    · obtain ⟨i1, i2⟩ := hms.I _ _ k
      refine ⟨?_, i2⟩
      rw [i1]
      dsimp only
      apply hold
      rcases Nat.lt_or_ge b' w.heap.size with hlt | hge
      · rcases hx.inew b' o' hlt k with j | j
        · exact .inl (hm.I _ _ (hIof _ _ j)).1
        · exact .inr (hOof _ _ j)
      · exact .inl (hGnone b' o' hge)
    · refine ⟨?_, (hms.ow _ _ _ k).2⟩
      rw [k]
      dsimp only
      cases hp : pos (o2 ++ o1) id with
      | none =>
        dsimp only
        apply hold
        rcases Nat.lt_or_ge b' w.heap.size with hlt | hge
        · exact .inr (hown b' o' id k hlt)
        · exact .inl (hGnone b' o' hge)
      | some j =>
        have h1 := mem_somes (pos_some hp)
        have h3 := List.all_eq_true.1 (List.all_eq_true.1 hap2 id h1) id hid
        simp at h3
  · rw [hGow] at k
    rw [List.length_append, List.length_append, kill_length, e2, d2]
    split at k
    · rename_i j hj
      injection k with k
      split at hj
      · rename_i id' hid'
        have := pos_some hj
        have h2 := (List.getElem?_eq_some_iff.1 this).1
        rw [List.length_append] at h2
        exact ⟨by omega, (hms.ow _ _ _ hid').2⟩
      · cases hj
    · split at k
      · rename_i id' hid'
        split at k
        · cases k
        · injection k with k
          subst k
          have := hm.ow _ _ _ hid'
          exact ⟨by omega, Nat.lt_of_lt_of_le this.2 hx.size⟩
      · cases k
  · obtain ⟨q1, q2⟩ := hout b' o' hb' (fun id e => by rw [k] at e; cases e)
    refine ⟨?_, q2⟩
    rw [hGow, q1]
    dsimp only
    rw [k]
  · refine hx.block b' hb' fun o' => ?_
    simp only [Gh.of, k o']
  · rcases k with k | ⟨id, hid, k⟩
    · rcases hx.inew b' o' hb' k with j | j
      · exact .inl (hIof _ _ j)
      · obtain ⟨i, e, _⟩ := hOof _ _ j
        exact .inr (by rw [e]; simp)
    · obtain ⟨i, e, _⟩ := hown b' o' id k hb'
      exact .inr (by rw [e]; simp)

/-- What a function hands back, read off the state behind its body. -/
theorem fin_ok {D : List Deferred} {fn : Func} {ins outs : List Sh} {FF : shsDen ins → Option (shsDen outs × shsDen (shsUpd ins))} {x : shsDen ins} {y : shsDen outs × shsDen (shsUpd ins)} {G : Gh C.gl} {w : World} {h : List Ob} {vs : List V} {o : List (Option Nat)} {b : List Nat} {vals : List Value}
    (hm : Mem G w h) (hv : Rels G w vs vals) (hrd : shsRd h ins vs = some (x, o, b)) (hcond : Spec.plain ⟨ins, outs, FF⟩ = true ∨ (apartB o b = true ∧ b = []))
    (hlen : (shsMk 0 ins x).1.length = vals.length) (htmp : ∀ (t : Nat) (val : Value), vals[t]? = some val → (vals.toArray ++ Array.replicate (fn.ntmps - vals.toArray.size) undef).getD t undef = val)
    {s' : St} {Gs : Gh C.gl} {a' : Act} {w' : World} (q1 : Abs D fn.ntmps Gs s' a' w') (q2 : Ext (G.of o b) w Gs w') (q4 : Keep (kpOf 0 ins) { tmps := vals.toArray ++ Array.replicate (fn.ntmps - vals.toArray.size) undef, defers := [] } a')
    (hfi : finish C fn ins outs ((List.range (shsMk 0 ins x).1.length).map fun t => look t s'.env) s' = some y) :
    ∃ v G', (results fn a'.tmps).run C.P w' = .ok v w' ∧ Mem G' w' (aftM h o ⟨ins, outs, FF⟩ y) ∧ Rel G' w' (aftV h ⟨ins, outs, FF⟩ y) v ∧ Rels G' w' (shsMk h.length (shsUpd ins) y.2).1 (updVals ins vals) ∧ Subs G w G' w' ∧ Ext G w G' w' := by
  unfold finish at hfi
  split at hfi
  · rename_i rs hrs hfns
    dsimp only at hfi
    obtain ⟨Gf, f1, f2, f3⟩ := frRw_ok rs q1.mem
    split at hfi
    · rename_i y1 o1 b1 hrd1
      split at hfi
      · rename_i z o2 b2 hrd2
        split at hfi
        · rename_i hap
          injection hfi with hfi
          subst hfi
          obtain ⟨rvals, k1, k20⟩ := resV_ok (C := C) q1 _ hrs
          have k2 : Rels Gf w' rs rvals := ⟨k20.1, fun k v x hv hx => (k20.2 k v x hv hx).mono f2⟩
          have hres := results_run k1
          -- what is handed back
          have hku0 : Rels Gs w' (shsUpdV ins ((List.range (shsMk 0 ins x).1.length).map fun t => look t s'.env)) (updVals ins vals) := by
            rw [Bool.or_eq_true] at hfns
            rcases hfns with hf | hf
            · refine upd_kept ins [] [] 0 _ vals hf rfl (by simp [hlen]) (fun k v val a _ => by simp at a) (fun k v val hk hv' hval => ?_)
              rw [Nat.zero_add] at hk
              simp only [List.getElem?_map, Option.map_eq_some_iff] at hv'
              obtain ⟨t, ht, rfl⟩ := hv'
              have htk : t = k := by
                rw [List.getElem?_range (by have := (List.getElem?_eq_some_iff.1 ht).1; simpa using this)] at ht
                injection ht with ht
                exact ht.symm
              subst htk
              have h1 := q1.env t
              rw [q4 t hk] at h1
              dsimp only at h1
              rw [htmp t _ hval] at h1
              exact h1
            · have hu := List.isEmpty_iff.1 hf
              rw [upd_none _ ins vals (Nat.le_refl _) hu]
              have hsh : ∀ (shs : List Sh) (us : List V) (z : shsDen shs) (o2 : List (Option Nat)) (b2 : List Nat), shs = [] → shsRd (frRw s'.h rs) shs us = some (z, o2, b2) → us = [] := by
                intro shs us z o2 b2 he hr
                subst he
                cases us with
                | nil => rfl
                | cons => simp [shsRd] at hr
              rw [hsh _ _ _ _ _ hu hrd2]
              exact Rels.nil
          have hku := (⟨hku0.1, fun k v x hv hx => (hku0.2 k v x hv hx).mono f2⟩ : Rels Gf w' (shsUpdV ins ((List.range (shsMk 0 ins x).1.length).map fun t => look t s'.env)) (updVals ins vals))
          have hend : ∃ G', Mem G' w' (aftM h o ⟨ins, outs, FF⟩ (y1, z)) ∧ Rels G' w' (shsMk (h.length + (shsMk h.length (shsUpd ins) z).2.length) outs y1).1 rvals ∧ Rels G' w' (shsMk h.length (shsUpd ins) z).1 (updVals ins vals) ∧ Subs G w G' w' ∧ Ext G w G' w' := by
            by_cases hb : b = []
            · subst hb
              exact merge hm f1 (q2.trans f3) hrd1 hrd2 hap hku k2
            · have hpl : Spec.plain ⟨ins, outs, FF⟩ = true := hcond.resolve_right fun k => hb k.2
              rw [(aft_plain hpl hrd (y1, z)).1]
              have hpl' := hpl
              unfold Spec.plain at hpl'
              rw [Bool.and_eq_true] at hpl'
              have ho := bare_o ins hpl'.2 hrd
              subst ho
              have hz := mk_bare h.length ins hpl'.2 z
              rw [hz]
              have hu0 := upd_bare ins hpl'.2
              rw [upd_none _ ins vals (Nat.le_refl _) hu0]
              have hExt := q2
              have hcow : ∀ b' o', (G.of [] b).ow b' o' = none := fun b' o' => by simp only [Gh.of]; split <;> rfl
              have hcel : ∀ b' o', b' < w.heap.size → cel w' b' o' = cel w b' o' ∧ frz w' b' o' = frz w b' o' := fun b' o' hb' => (q2.cell b' o' hb' (hcow b' o')).2
              have hblk : ∀ b', b' < w.heap.size → w'.heap[b']? = w.heap[b']? := fun b' hb' => q2.block b' hb' (hcow b')
              have hs : Subs G w G w' := ⟨fun b' o' k => ⟨k, (hcel b' o' (hm.I _ _ k).2).1⟩, fun _ _ k => k⟩
              refine ⟨G, ?_, ?_, Rels.nil, hs, ⟨fun _ _ k => k, q2.size, fun b' o' hb' k => ⟨k, hcel b' o' hb'⟩, fun b' hb' _ => hblk b' hb', fun _ _ _ k => .inl k, q2.rest⟩⟩
              · refine ⟨hm.len, hm.one, fun id ob hi => Obj.keep hs (fun b' o' k => ⟨k, hcel b' o' (hm.ow _ _ _ k).2⟩) (hm.obj _ _ hi), fun b' o' k => ?_, fun b' o' id k => ?_, gl_sub hs hm.gl⟩
                · have := hm.I b' o' k
                  exact ⟨this.1, Nat.lt_of_lt_of_le this.2 q2.size⟩
                · have := hm.ow b' o' id k
                  exact ⟨this.1, Nat.lt_of_lt_of_le this.2 q2.size⟩
              · have ho1 : o1 = [] := bare_o outs (List.all_eq_true.2 fun s hs => flat_bare (List.all_eq_true.1 hpl'.1 s hs)) hrd1
                subst ho1
                obtain ⟨_, d2, _⟩ := canon (o := []) (b := b1) f1 hrd1 rfl k2
                exact flat_rels 0 _ outs y1 hpl'.1 d2
          obtain ⟨G', m1, m2, m3, m4, m5⟩ := hend
          exact ⟨_, G', hres, m1, tup_rel m2, m3, m4, m5⟩
        · cases hfi
      · cases hfi
    · cases hfi
  · cases hfi

/-- A function does what its evaluation says. -/
theorem snd_fun {fid : Nat} {fn : Func} {c : Code} (hfn : C.P.funcs[fid]? = some fn) (hbody : fn.body = some c) (henter : ∀ (args : Array Value) (w : World), (callFunc fid args).run C.P w = .ok (.enter fid args) w)
    (hT : ∀ p, p ∈ T → Snd C p.1 p.2) (f : Nat) (ins outs : List Sh) (hL : ∀ body, body ∈ loopsIn c → ∀ k sp, lkey body = some k → find k L = some sp → LSnd C fn.ntmps (kpOf 0 ins) body sp) (hS : SOk C fn.ntmps (kpOf 0 ins) L c) : Snd C fid ⟨ins, outs, funF C T L f fn ins outs⟩ := by
  refine ⟨henter, ?_⟩
  intro x y hF G w h vs o b vals hm hv hrd hcond
  dsimp only at hF hrd y
  have hap0 : apartB o b = true := by
    rcases hcond with k | k
    · unfold Spec.plain at k
      rw [Bool.and_eq_true] at k
      rw [bare_o ins k.2 hrd]
      rfl
    · exact k.1
  obtain ⟨c1, c2, c3⟩ := canon hm hrd hap0 hv
  unfold funF at hF
  rw [hbody] at hF
  dsimp only at hF
  split at hF
  · rename_i hle
    have hle := Nat.le_of_ble_eq_true hle
    have hlen : (shsMk 0 ins x).1.length = vals.length := c2.1
    refine calls_of_wp hfn hbody ?_
    have htmp : ∀ (t : Nat) (val : Value), vals[t]? = some val → (vals.toArray ++ Array.replicate (fn.ntmps - vals.toArray.size) undef).getD t undef = val := by
      intro t val ht
      have htl := (List.getElem?_eq_some_iff.1 ht).1
      rw [Array.getD_eq_getD_getElem?, Array.getElem?_append_left (by simpa using htl)]
      simp [ht]
    have hA : Abs [] fn.ntmps (G.of o b) { env := (List.range (shsMk 0 ins x).1.length).zip (shsMk 0 ins x).1, h := (shsMk 0 ins x).2 } { tmps := vals.toArray ++ Array.replicate (fn.ntmps - vals.toArray.size) undef, defers := [] } w := by
      refine ⟨rfl, by simp; omega, fun t => ?_, c1⟩
      rw [look_args]
      cases ht : (shsMk 0 ins x).1[t]? with
      | none => exact .u _
      | some u =>
        have htl : t < vals.length := by have := (List.getElem?_eq_some_iff.1 ht).1; omega
        have hval : vals[t]? = some vals[t] := List.getElem?_eq_getElem htl
        rw [htmp t _ hval]
        exact c2.2 t u _ ht hval
    refine wp_mono ((pexec_ok hT f).1 c _ _ y hL hS hF (G.of o b) _ w hA) ?_
    rintro e a' w' ⟨p, s', Gs, he, q1, q2, q3, q4⟩
    have hfin : (e = .normal ∨ e = .ret) → finish C fn ins outs ((List.range (shsMk 0 ins x).1.length).map fun t => look t s'.env) s' = some y → bodyPost C.P fn (fun e w' => ∃ v G', e = .returned v ∧ Mem G' w' (aftM h o ⟨ins, outs, funF C T L f fn ins outs⟩ y) ∧ Rel G' w' (aftV h ⟨ins, outs, funF C T L f fn ins outs⟩ y) v ∧ Rels G' w' (shsMk h.length (shsUpd ins) y.2).1 (updVals ins vals) ∧ Subs G w G' w' ∧ Ext G w G' w') e a' w' := by
      intro hee hfi
      obtain ⟨v, G', hres, m1, m2, m3, m4, m5⟩ := fin_ok (FF := funF C T L f fn ins outs) hm hv hrd hcond hlen htmp q1 q2 q4 hfi
      have hpost : a'.defers = [] ∧ ∃ v, (results fn a'.tmps).run C.P w' = .ok v w' ∧ ∃ v' G', Ending.returned v = .returned v' ∧ Mem G' w' (aftM h o ⟨ins, outs, funF C T L f fn ins outs⟩ y) ∧ Rel G' w' (aftV h ⟨ins, outs, funF C T L f fn ins outs⟩ y) v' ∧ Rels G' w' (shsMk h.length (shsUpd ins) y.2).1 (updVals ins vals) ∧ Subs G w G' w' ∧ Ext G w G' w' :=
        ⟨q1.defers, _, hres, _, G', rfl, m1, m2, m3, m4, m5⟩
      rcases hee with rfl | rfl
      · exact hpost
      · exact hpost
    cases e with
    | normal =>
      simp only [PX.of, Option.some.injEq] at he
      subst he
      exact hfin (.inl rfl) q3
    | ret =>
      simp only [PX.of, Option.some.injEq] at he
      subst he
      exact hfin (.inr rfl) q3
    | exit id => simp only [PX.of, Option.some.injEq] at he; subst he; cases q3
    | goto l => simp only [PX.of, Option.some.injEq] at he; subst he; cases q3
    | panic ch => simp [PX.of] at he
    | outgrown => simp [PX.of] at he
  · cases hF
end
end Go.Pv
