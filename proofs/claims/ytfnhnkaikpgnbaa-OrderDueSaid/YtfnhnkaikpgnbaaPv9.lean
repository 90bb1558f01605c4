/- The engine, part 9: every operation. -/
import Derived.Test.YtfnhnkaikpgnbaaPvM
namespace Go.Pv
open Go
set_option linter.all false
set_option linter.constructorNameAsVariable false
set_option linter.unusedSectionVars false
set_option linter.unusedVariables false
set_option linter.unusedSimpArgs false
variable {N : List Nat}

section
variable {C : Cfg} {G : Gh N} {w : World} {h : List Ob}

theorem pick_rel {x : Bool} {p q : V} {val : Value} (ht : x = true → Rel G w p val) (hf : x = false → Rel G w q val) : Rel G w (pickV x p q) val := by
  cases x with
  | true =>
    have := ht rfl
    unfold pickV
    split
    · exact this
    · split
      · exact this
      · exact .u _
    · exact this
    · exact .u _
    · exact this
    · exact .u _
  | false =>
    have := hf rfl
    unfold pickV
    split
    · exact this
    · rename_i k m k' n
      split
      · rename_i hk
        have hk : k = k' := by simpa using hk
        subst hk
        exact this
      · exact .u _
    · exact this
    · exact this
    · exact .u _
    · exact .u _

theorem opt_rel {f : Operand → V} {g : Operand → Value} (hr : ∀ x, Rel G w (f x) (g x)) (o : Option Operand) : o.map f = none ∧ o.map g = none ∨ ∃ v val, o.map f = some v ∧ o.map g = some val ∧ Rel G w v val := by
  cases o with
  | none => exact .inl ⟨rfl, rfl⟩
  | some x => exact .inr ⟨_, _, rfl, rfl, hr x⟩

theorem parts_rel {f : Operand → V} {g : Operand → Value} (hr : ∀ x, Rel G w (f x) (g x)) (parts : Array (Nat × Operand)) :
    (parts.toList.map fun p => (p.1, f p.2)).length = (parts.map fun x => match x with | (i, x) => (i, g x)).size ∧
      ∀ (j : Nat) (p : Nat × V) (q : Nat × Value), (parts.toList.map fun p => (p.1, f p.2))[j]? = some p → (parts.map fun x => match x with | (i, x) => (i, g x))[j]? = some q → p.1 = q.1 ∧ Rel G w p.2 q.2 := by
  refine ⟨by simp, fun j p q hp hq => ?_⟩
  simp only [List.getElem?_map, Option.map_eq_some_iff, Array.getElem?_toList] at hp
  simp only [Array.getElem?_map, Option.map_eq_some_iff] at hq
  obtain ⟨⟨i, x⟩, h1, rfl⟩ := hp
  obtain ⟨y, h2, rfl⟩ := hq
  rw [h1] at h2
  injection h2 with h2
  subst h2
  exact ⟨rfl, hr x⟩

theorem evalOp_ok (hm : Mem G w h) {env : Env} {a : Act} (he : EnvR G w env a.tmps) {gs : List (Nat × Bool)} (hg : Met a.tmps gs) (o : Oper) :
    OutOk G w ((execOp a.eval o).run C.P w) (evalOp C o.op env h gs) := by
  have hr : ∀ x, Rel G w (ung gs (opnd env x)) (a.eval x) := fun x => ung_rel hg (opnd_rel he x)
  unfold evalOp execOp
  cases hop : o.op with
  | move x => exact Did.pure hm (hr x) rfl
  | assign x => exact Did.pure hm (hr x) rfl
  | pick c x y =>
    dsimp only
    split
    · rename_i b hc
      have hcr := hr c
      rw [hc] at hcr
      generalize hcv : a.eval c = vc at hcr
      cases hcr
      have hb : ∀ want, b = want → Met a.tmps (withG c want gs) := by
        rintro want rfl p hp
        cases c with
        | tmp t =>
          simp only [withG, List.mem_cons] at hp
          rcases hp with rfl | hp
          · exact hcv
          · exact hg p hp
        | _ => exact hg p hp
      refine Did.pure hm (val := if b = true then a.eval x else a.eval y) (pick_rel (fun e => ?_) (fun e => ?_)) ?_
      · rw [if_pos e]
        exact ung_rel (hb true e) (opnd_rel he x)
      · rw [if_neg (by rw [e]; simp)]
        exact ung_rel (hb false e) (opnd_rel he y)
      · simp only [asBool, Sem.run_bind, Sem.run_pure, Result.andThen_ok]
    · trivial
  | alloc t =>
    dsimp only
    split
    · rename_i z hz
      exact alloc_ok hm hz
    · trivial
  | box t x =>
    dsimp only
    split
    · rename_i hl
      exact box_ok hm t (hr x) hl
    · trivial
  | build t parts =>
    obtain ⟨h1, h2⟩ := parts_rel hr parts
    exact build_ok hm t _ _ h1 h2
  | buildSlice t n parts =>
    obtain ⟨h1, h2⟩ := parts_rel hr parts
    exact buildSlice_ok hm t n _ _ h1 h2
  | load t x => exact load_ok hm t (hr x)
  | store t x y => exact store_ok hm t (hr x) (hr y)
  | nilCheck x =>
    have hx := hr x
    dsimp only
    generalize ung gs (opnd env x) = v at hx ⊢
    generalize a.eval x = vx at hx ⊢
    cases hx with
    | ptr id off b o hρ => exact Did.pure hm (.ptr id off b o hρ) rfl
    | pim vs b o f hmm hrr => exact Did.pure hm (.pim vs b o f hmm hrr) rfl
    | pel e id i off b o len cap hρ => exact Did.pure hm (.pel e id i off b o len cap hρ) rfl
    | _ => trivial
  | binOp op t x y ty => exact binOp_ok hm op t x y (hr x) (hr y)
  | unOp op t x => exact unOp_ok hm op (hr x)
  | convert src dst x =>
    dsimp only
    split
    · rename_i ds hs
      exact conv_ok hm src dst (hr x) hs
    · trivial
  | makeFunc f first cs =>
    dsimp only
    split
    · rename_i hf
      have hf' : first = #[] := by
        cases first
        simp at hf
        subst hf
        rfl
      subst hf'
      refine Did.pure hm (.fn f _ (cs.map a.eval) (by simp) (fun k c v hc hv => ?_)) (by simp [Instr.makeFunc])
      simp only [List.getElem?_map, Option.map_eq_some_iff, Array.getElem?_toList] at hc
      obtain ⟨x, h1, rfl⟩ := hc
      simp only [Array.getElem?_map, h1, Option.map_some, Option.some.injEq] at hv
      subst hv
      exact hr x
    · trivial
  | makeSlice t l c => exact makeSlice_ok hm t (hr l) (hr c)
  | slice t x lo hi mx =>
    cases mx with
    | none => exact slice_ok hm t (hr x) (opt_rel hr lo) (opt_rel hr hi)
    | some m => trivial
  | fieldAddr t x f =>
    dsimp only
    split
    · rename_i fd hf
      split
      · rename_i n hn
        exact fieldAddr_ok hm hf hn (hr x)
      · trivial
    · trivial
  | field t x f =>
    dsimp only
    split
    · rename_i fd vs hf hc
      split
      · rename_i n g hn hgg
        have hx := hr x
        rw [hc] at hx
        exact field_ok hm hf hn hgg hx
      · trivial
    · trivial
  | indexAddr t x i => exact idxAddr_ok hm t (hr x) (hr i)
  | index t x i =>
    dsimp only
    split
    · rename_i s k n hu hs hi
      have hx := hr x
      have hy := hr i
      rw [hs] at hx
      rw [hi] at hy
      exact index_ok hm hu hx hy
    · trivial
  | makeMap t r =>
    cases r with
    | none =>
      dsimp only
      split
      · exact makeMap_ok hm t
      · trivial
    | some r => trivial
  | lookup t x i ok => exact lookup_ok hm t (hr x) (hr i) ok
  | mapUpdate t m k x => exact mapUp_ok hm t (hr m) (hr k) (hr x)
  | extract x n =>
    dsimp only
    split
    · rename_i vs hc
      rw [nth_eq]
      split
      · rename_i v hv
        have hx := hr x
        rw [hc] at hx
        exact extract_ok hm hv hx
      · trivial
    · trivial
  | call c =>
    dsimp only
    split
    all_goals first
      | (rename_i hcall; cases hcall; done)
      | skip
    · rename_i args argTypes heq
      split
      · rename_i x t ha ht
        injection heq with heq
        subst heq
        have ha' : args = #[x] := by cases args; simp at ha; subst ha; rfl
        have ht' : argTypes = #[t] := by cases argTypes; simp at ht; subst ht; rfl
        subst ha'; subst ht'
        have := len_ok (C := C) hm t (hr x) o.type
        have e : (do let d ← resolve a.eval { callee := .builtin .len, args := #[x], argTypes := #[t] } o.type; invoke d.target d.args : Sem Next).run C.P w = (do let r ← Builtin.len_ #[t] o.type #[a.eval x]; pure (.value r) : Sem Next).run C.P w := by
          simp [resolve, invoke, builtin]
        rw [e]
        exact this
      · trivial
    · rename_i args at0 heq
      split
      · rename_i x y ha
        injection heq with heq
        subst heq
        have ha' : args = #[x, y] := by cases args; simp at ha; subst ha; rfl
        subst ha'
        have h1 := hr x
        have h2 := hr y
        unfold minV
        split
        · rename_i k p k' q hx hy
          rw [hx] at h1
          rw [hy] at h2
          split
          · rename_i hk
            have hk : k = k' := by simpa using hk
            subst hk
            generalize hvx : a.eval x = vx at h1
            generalize hvy : a.eval y = vy at h2
            cases h1 with
            | i _ _ c1 =>
              cases h2 with
              | i _ _ c2 =>
                refine Did.pure hm (val := .int k (bif false then bif decide (p < q) then q else p else bif decide (q < p) then q else p)) (.i _ _ fun e => ?_) ?_
                · cases decide (p < q) <;> cases decide (q < p) <;> first | exact c1 e | exact c2 e
                · simp [resolve, invoke, builtin, Builtin.min_, Builtin.min2, hvx, hvy]
          · trivial
        · trivial
      · trivial
    · rename_i args at0 heq
      split
      · rename_i x y ha
        injection heq with heq
        subst heq
        have ha' : args = #[x, y] := by cases args; simp at ha; subst ha; rfl
        subst ha'
        have h1 := hr x
        have h2 := hr y
        unfold minV
        split
        · rename_i k p k' q hx hy
          rw [hx] at h1
          rw [hy] at h2
          split
          · rename_i hk
            have hk : k = k' := by simpa using hk
            subst hk
            generalize hvx : a.eval x = vx at h1
            generalize hvy : a.eval y = vy at h2
            cases h1 with
            | i _ _ c1 =>
              cases h2 with
              | i _ _ c2 =>
                refine Did.pure hm (val := .int k (bif true then bif decide (p < q) then q else p else bif decide (q < p) then q else p)) (.i _ _ fun e => ?_) ?_
                · cases decide (p < q) <;> cases decide (q < p) <;> first | exact c1 e | exact c2 e
                · simp [resolve, invoke, builtin, Builtin.max_, Builtin.max2, hvx, hvy]
          · trivial
        · trivial
      · trivial
    · rename_i args at0 heq
      split
      · rename_i x y ha
        injection heq with heq
        subst heq
        have ha' : args = #[x, y] := by cases args; simp at ha; subst ha; rfl
        subst ha'
        have h1 := hr x
        have h2 := hr y
        unfold cplV
        split
        · rename_i p q hx hy
          rw [hx] at h1
          rw [hy] at h2
          generalize hvx : a.eval x = vx at h1
          generalize hvy : a.eval y = vy at h2
          cases h1
          cases h2
          refine Did.pure hm (val := .complex .f64 p q) (.c _ _) ?_
          have hc : ∀ (ats : Array TypeId) (t : TypeId), Builtin.complex_ ats t #[.float .f64 p, .float .f64 q] = pure (.complex .f64 p q) := fun ats t => by
            show (if FloatKind.f64 = FloatKind.f64 then (pure (.complex .f64 p q) : Sem Value) else stuck "complex: parts of different kinds") = _
            rw [if_pos rfl]
          simp [resolve, invoke, builtin, hc, hvx, hvy]
        · trivial
      · trivial
    · rename_i args argTypes heq
      split
      · rename_i x y t u ha ht
        injection heq with heq
        subst heq
        have ha' : args = #[x, y] := by cases args; simp at ha; subst ha; rfl
        have ht' : argTypes = #[t, u] := by cases argTypes; simp at ht; subst ht; rfl
        subst ha'; subst ht'
        have := append_ok (C := C) hm t u o.type (hr x) (hr y)
        have e : (do let d ← resolve a.eval { callee := .builtin .append, args := #[x, y], argTypes := #[t, u] } o.type; invoke d.target d.args : Sem Next).run C.P w = (do let r ← Builtin.append_ #[t, u] o.type #[a.eval x, a.eval y]; pure (.value r) : Sem Next).run C.P w := by
          simp [resolve, invoke, builtin]
        rw [e]
        exact this
      · trivial
    · trivial
  | _ => trivial

/-- .. and what is calm leaves memory as it is. -/
def Out.same (h : List Ob) : Out → Prop
  | .val _ h' => h' = h
  | .chk _ _ h' => h' = h
  | .no => True
  | .call .. => False
theorem same_grp (h : List Ob) (g : Bool) (vs : Option (List V)) : (grp h g vs).same h := by
  unfold grp
  split
  · split
    · rfl
    · split
      · rfl
      · trivial
  · trivial
theorem same_under {h : List Ob} {o : Out} {c : Bool} (hs : o.same h) : (o.under c).same h := by
  cases o <;> first | exact hs | trivial
theorem calm_same (op : Op) (env : Env) (gs : List (Nat × Bool)) (hc : calm op = true) : (evalOp C op env h gs).same h := by
  unfold evalOp
  cases op with
  | move x => rfl
  | assign x => rfl
  | pick c x y => dsimp only; split <;> first | rfl | trivial
  | build t parts =>
    dsimp only
    unfold buildV
    repeat' split
    all_goals first | rfl | trivial
  | load t x =>
    dsimp only
    unfold loadV
    split
    · split
      · split
        · exact same_grp _ _ _
        · trivial
      · exact same_grp _ _ _
      · split
        · exact same_under (same_grp _ _ _)
        · trivial
      · trivial
    · trivial
  | nilCheck x => dsimp only; split <;> first | rfl | trivial
  | binOp op t x y ty =>
    dsimp only
    unfold binV
    split
    · split
      · unfold shI; split <;> first | rfl | trivial | (split <;> first | rfl | trivial)
      · unfold shI; split <;> first | rfl | trivial | (split <;> first | rfl | trivial)
      · split
        · unfold binI; split <;> first | rfl | trivial | (split <;> first | rfl | trivial)
        · trivial
    · unfold binS; split <;> first | rfl | trivial
    · split <;> first | rfl | trivial
    · split <;> first | rfl | trivial
    · split <;> first | rfl | trivial
    · split <;> first | rfl | trivial
    · trivial
  | unOp op t x => dsimp only; unfold unV; split <;> first | rfl | trivial
  | makeFunc f first cs => dsimp only; split <;> first | rfl | trivial
  | fieldAddr t x f =>
    dsimp only
    split
    · split
      · unfold offV; split <;> first | rfl | trivial
      · trivial
    · trivial
  | field t x f =>
    dsimp only
    split
    · split
      · exact same_grp _ _ _
      · trivial
    · trivial
  | indexAddr t x i =>
    dsimp only
    unfold idxAddr
    split
    · split
      · split <;> first | rfl | trivial
      · trivial
    · trivial
  | index t x i => dsimp only; split <;> first | rfl | trivial
  | extract x n =>
    dsimp only
    split
    · split <;> first | rfl | trivial
    · trivial
  | call c =>
    obtain ⟨callee, args, ats⟩ := c
    cases callee with
    | builtin b =>
      cases b with
      | len =>
        dsimp only
        split
        · unfold lenV; split <;> first | rfl | trivial
        · trivial
      | append => simp [calm] at hc
      | min =>
        dsimp only
        split
        · unfold minV; split
          · split <;> first | rfl | trivial
          · trivial
        · trivial
      | max =>
        dsimp only
        split
        · unfold minV; split
          · split <;> first | rfl | trivial
          · trivial
        · trivial
      | complex =>
        dsimp only
        split
        · unfold cplV; split <;> first | rfl | trivial
        · trivial
      | _ => trivial
    | value f => trivial
    | invoke r m => trivial
  | _ => first | trivial | (simp [calm] at hc; done)
end
end Go.Pv
