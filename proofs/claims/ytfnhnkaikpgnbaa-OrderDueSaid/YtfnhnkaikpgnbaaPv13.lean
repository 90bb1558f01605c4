/- The engine, part 13: code. -/
import Derived.Test.YtfnhnkaikpgnbaaPvH
namespace Go.Pv
open Go
set_option linter.all false
set_option linter.constructorNameAsVariable false
set_option linter.unusedSectionVars false
set_option linter.unusedVariables false
set_option linter.unusedSimpArgs false

/-! ### loops and scopes of the machine -/
def LoopWp (P : Program) (c : Code) (Q : Exit → Act → World → Prop) (a : Act) (w : World) : Prop :=
  ∀ (b : Frame) (k : List Item) (cs : List Frame), ∃ e a' w', Q e a' w' ∧ Arrives P (lone (b.at a (.code c :: .inLoop c :: k)) cs w) b k cs e a' w'

theorem loopWp_unroll {P : Program} {c : Code} {Q : Exit → Act → World → Prop} {a : Act} {w : World} (h : c.wp P (Exit.then (LoopWp P c Q) Q) a w) : LoopWp P c Q a w := by
  intro b k cs
  obtain ⟨e, a₁, w₁, hq, harr⟩ := h b (.inLoop c :: k) cs
  cases e with
  | normal =>
    obtain ⟨e₂, a₂, w₂, hq₂, harr₂⟩ := hq b k cs
    exact ⟨e₂, a₂, w₂, hq₂, .of_steps (Steps.trans harr (.one step_inLoop)) harr₂⟩
  | exit id => exact ⟨_, a₁, w₁, hq, .pass (x := .inLoop c) rfl (fun _ _ => .inl (by simp)) harr⟩
  | goto l => exact ⟨_, a₁, w₁, hq, .pass (x := .inLoop c) rfl (fun _ _ => .inl (by simp)) harr⟩
  | ret => exact ⟨_, a₁, w₁, hq, .pass (x := .inLoop c) rfl (fun _ _ => .inl (by simp)) harr⟩
  | panic ch => exact ⟨_, a₁, w₁, hq, .pass (x := .inLoop c) rfl (fun _ _ => .inl (by simp)) harr⟩
  | outgrown => exact ⟨_, a₁, w₁, hq, .pass (x := .inLoop c) rfl (fun _ _ => .inl (by simp)) harr⟩
theorem loopWp_wp {P : Program} {c : Code} {Q : Exit → Act → World → Prop} {a : Act} {w : World} (h : LoopWp P c Q a w) : (Code.loop c).wp P Q a w := by
  intro b k cs
  obtain ⟨e, a', w', hq, harr⟩ := h b k cs
  exact ⟨e, a', w', hq, .of_steps (.one step_loop) harr⟩

def ScopeWp (P : Program) (B c : Code) (Q : Exit → Act → World → Prop) (a : Act) (w : World) : Prop :=
  ∀ (b : Frame) (k : List Item) (cs : List Frame), ∃ e a' w', Q e a' w' ∧ Arrives P (lone (b.at a (.code c :: .inScope B :: k)) cs w) b k cs e a' w'

def scopeQ (P : Program) (B : Code) (Q : Exit → Act → World → Prop) : Exit → Act → World → Prop
  | .goto l, a, w => match findLabel B l with
    | some rest => ScopeWp P B rest Q a w
    | none => Q (.goto l) a w
  | e, a, w => Q e a w

theorem scopeWp_of {P : Program} {B c : Code} {Q : Exit → Act → World → Prop} {a : Act} {w : World} (h : c.wp P (scopeQ P B Q) a w) : ScopeWp P B c Q a w := by
  intro b k cs
  obtain ⟨e, a₁, w₁, hq, harr⟩ := h b (.inScope B :: k) cs
  cases e with
  | normal => exact ⟨.normal, a₁, w₁, hq, Steps.trans harr (.one step_inScope)⟩
  | exit id => exact ⟨.exit id, a₁, w₁, hq, fun k' hk => harr k' (by simp [exitTo, hk])⟩
  | goto l =>
    simp only [scopeQ] at hq
    split at hq
    · rename_i rest hf
      obtain ⟨e₂, a₂, w₂, hq₂, harr₂⟩ := hq b k cs
      exact ⟨e₂, a₂, w₂, hq₂, .of_steps (harr _ (by simp [gotoIn, hf])) harr₂⟩
    · rename_i hf
      exact ⟨.goto l, a₁, w₁, hq, fun k' hk => harr k' (by simp [gotoIn, hf, hk])⟩
  | ret => exact ⟨_, a₁, w₁, hq, harr⟩
  | panic ch => exact ⟨_, a₁, w₁, hq, harr⟩
  | outgrown => exact ⟨_, a₁, w₁, hq, harr⟩
theorem scopeWp_wp {P : Program} {B : Code} {Q : Exit → Act → World → Prop} {a : Act} {w : World} (h : ScopeWp P B B Q a w) : (Code.scope B).wp P Q a w := by
  intro b k cs
  obtain ⟨e, a', w', hq, harr⟩ := h b k cs
  exact ⟨e, a', w', hq, .of_steps (.one step_scope) harr⟩
theorem ScopeWp.mono {P : Program} {B c : Code} {Q Q' : Exit → Act → World → Prop} {a : Act} {w : World} (h : ScopeWp P B c Q a w) (hq : ∀ e a w, Q e a w → Q' e a w) : ScopeWp P B c Q' a w := by
  intro b k cs
  obtain ⟨e, a', w', q, harr⟩ := h b k cs
  exact ⟨e, a', w', hq _ _ _ q, harr⟩

/-! ### the state at an exit -/
def PX.of : Exit → Option PX
  | .normal => some .nx
  | .exit id => some (.ex id)
  | .goto l => some (.gt l)
  | .ret => some .rt
  | _ => none

def Keep (kp : List Nat) (a a' : Act) : Prop := ∀ d, d ∈ kp → a'.tmps.getD d undef = a.tmps.getD d undef
theorem Keep.refl (kp : List Nat) (a : Act) : Keep kp a a := fun _ _ => rfl
theorem Keep.trans {kp : List Nat} {a b c : Act} (h : Keep kp a b) (h' : Keep kp b c) : Keep kp a c := fun d hd => (h' d hd).trans (h d hd)

variable {N : List Nat}
def Post (D : List Deferred) {R : Type} (n : Nat) (kp : List Nat) (G : Gh N) (a : Act) (w : World) (K : PX → St → Option R) (r : R) : Exit → Act → World → Prop :=
  fun e a' w' => ∃ p s' G', PX.of e = some p ∧ Abs D n G' s' a' w' ∧ Ext G w G' w' ∧ K p s' = some r ∧ Keep kp a a'

theorem Post.mk {D : List Deferred} {R : Type} {n : Nat} {kp : List Nat} {G : Gh N} {w : World} {K : PX → St → Option R} {r : R} {s : St} {a : Act} (h : Abs D n G s a w) {e : Exit} {p : PX} (he : PX.of e = some p) (hk : K p s = some r) : Post D n kp G a w K r e a w := ⟨p, s, G, he, h, .refl _ _, hk, .refl _ _⟩

theorem look_zip : ∀ (sl : List Nat) (vs : List V) (t : Nat), look t (sl.zip vs) = .u ∨ ∃ (k : Nat) (v : V), sl[k]? = some t ∧ vs[k]? = some v ∧ look t (sl.zip vs) = v
  | [], vs, t => .inl (by simp [look])
  | d :: sl, [], t => .inl (by simp [look])
  | d :: sl, v :: vs, t => by
    rw [List.zip_cons_cons, look_cons]
    by_cases h : d = t
    · rw [if_pos h]
      exact .inr ⟨0, v, by simp [h], rfl, rfl⟩
    · rw [if_neg h]
      rcases look_zip sl vs t with k | ⟨k, u, h1, h2, h3⟩
      · exact .inl k
      · exact .inr ⟨k + 1, u, by simpa using h1, by simpa using h2, h3⟩

theorem slots_ok {D : List Deferred} {n : Nat} {G : Gh N} {s : St} {a : Act} {w : World} (h : Abs D n G s a w) {sl : Slots} {x : shsDen (sl.map (·.2))} (hs : slotsGet s sl = some x) : ∃ G', Abs D n G' (slotsMk sl x) a w ∧ Ext G w G' w := by
  unfold slotsGet slotsRd at hs
  split at hs
  · rename_i x' o b hr
    split at hs
    · rename_i ha
      injection hs with hs
      subst hs
      have hv : Rels G w ((slN sl).map fun t => look t s.env) ((slN sl).map fun t => a.tmps.getD t undef) := by
        refine ⟨by simp, fun k v val h1 h2 => ?_⟩
        simp only [List.getElem?_map, Option.map_eq_some_iff] at h1 h2
        obtain ⟨p, hp, rfl⟩ := h1
        obtain ⟨q, hq, rfl⟩ := h2
        rw [hp] at hq
        injection hq with hq
        subst hq
        exact h.env _
      obtain ⟨c1, c2, c3⟩ := canon h.mem hr ha hv
      refine ⟨_, ⟨h.defers, h.size, fun t => ?_, c1⟩, c3⟩
      show Rel _ w (look t ((slN sl).zip (shsMk 0 (sl.map (·.2)) x').1)) _
      rcases look_zip (slN sl) (shsMk 0 (sl.map (·.2)) x').1 t with k | ⟨k, v, h1, h2, h3⟩
      · rw [k]; exact .u _
      · rw [h3]
        exact c2.2 k v _ h2 (by rw [List.getElem?_map, h1]; rfl)
    · cases hs
  · cases hs

/-- What a loop comes to. -/
def LSnd (C : Cfg) (n : Nat) (kp : List Nat) (body : Code) (sp : LSpec) : Prop :=
  ∀ (D : List Deferred) x y, sp.F x = some y → ∀ (G : Gh C.gl) a w, Abs D n G (slotsMk sp.head x) a w → (Code.loop body).wp C.P (fun e a' w' => ∃ G' : Gh C.gl, PX.of e = some (xAt sp.exits y).1 ∧ Abs D n G' (xAt sp.exits y).2 a' w' ∧ Ext G w G' w' ∧ Keep kp a a') a w

theorem xElim_at {R : Type} : ∀ (xs : List (PX × Slots)) (y : XD xs) (K : PX → St → Option R), xElim xs y K = K (xAt xs y).1 (xAt xs y).2
  | [], y, K => nomatch y
  | (e, sl) :: r, y, K => by
    cases y with
    | inl z => rfl
    | inr z => exact xElim_at r z K

theorem xInj_ok {D : List Deferred} {n : Nat} {G : Gh N} {s : St} {a : Act} {w : World} (h : Abs D n G s a w) {e : PX} : ∀ (xs : List (PX × Slots)) {y : XD xs}, xInj xs e s = some y → (xAt xs y).1 = e ∧ ∃ G', Abs D n G' (xAt xs y).2 a w ∧ Ext G w G' w
  | [], y, hi => nomatch y
  | (e', sl) :: r, y, hi => by
    simp only [xInj] at hi
    split at hi
    · rename_i he
      have he : e' = e := by simpa using he
      obtain ⟨z, hz, rfl⟩ := Option.map_eq_some_iff.1 hi
      exact ⟨he, slots_ok h hz⟩
    · obtain ⟨z, hz, rfl⟩ := Option.map_eq_some_iff.1 hi
      exact xInj_ok h r hz

theorem find_mem {α : Type} {k : Nat} {x : α} : ∀ {L : List (Nat × α)}, find k L = some x → (k, x) ∈ L
  | [], h => by simp [find] at h
  | (j, y) :: r, h => by
    simp only [find] at h
    cases hb : Nat.beq j k with
    | true =>
      rw [hb, cond_true] at h
      injection h with h
      subst h
      rw [Nat.eq_of_beq_eq_true hb]
      exact List.mem_cons_self ..
    | false =>
      rw [hb, cond_false] at h
      exact List.mem_cons_of_mem _ (find_mem h)

theorem findLabel_loops : ∀ {B : Code} {l : Nat} {rest : Code}, findLabel B l = some rest → ∀ c, c ∈ loopsIn rest → c ∈ loopsIn B := by
  intro B
  induction B with
  | seq x y ihx ihy =>
    intro l rest h c hc
    simp only [findLabel] at h
    split at h
    · rename_i r hr
      injection h with h
      subst h
      simp only [loopsIn, List.mem_append] at hc ⊢
      exact hc.imp (ihx hr c) id
    · simp only [loopsIn, List.mem_append]
      exact .inr (ihy h c hc)
  | label l' =>
    intro l rest h c hc
    simp only [findLabel] at h
    split at h
    · injection h with h
      subst h
      simp [loopsIn] at hc
    · cases h
  | _ => intro l rest h; simp [findLabel] at h

theorem findLabel_scopes : ∀ {B : Code} {l : Nat} {rest : Code}, findLabel B l = some rest → ∀ c, c ∈ scopesIn rest → c ∈ scopesIn B := by
  intro B
  induction B with
  | seq x y ihx ihy =>
    intro l rest h c hc
    simp only [findLabel] at h
    split at h
    · rename_i r hr
      injection h with h
      subst h
      simp only [scopesIn, List.mem_append] at hc ⊢
      exact hc.imp (ihx hr c) id
    · simp only [scopesIn, List.mem_append]
      exact .inr (ihy h c hc)
  | label l' =>
    intro l rest h c hc
    simp only [findLabel] at h
    split at h
    · injection h with h
      subst h
      simp [scopesIn] at hc
    · cases h
  | _ => intro l rest h; simp [findLabel] at h
/-- What comes of a jump to a label. -/
def SSnd (C : Cfg) (n : Nat) (kp : List Nat) (B rest : Code) (sp : LSpec) : Prop :=
  ∀ (D : List Deferred) x y, sp.F x = some y → ∀ (G : Gh C.gl) a w, Abs D n G (slotsMk sp.head x) a w → ScopeWp C.P B rest (fun e a' w' => ∃ G' : Gh C.gl, PX.of e = some (xAt sp.exits y).1 ∧ Abs D n G' (xAt sp.exits y).2 a' w' ∧ Ext G w G' w' ∧ Keep kp a a') a w
def SOk (C : Cfg) (n : Nat) (kp : List Nat) (L : List (Nat × LSpec)) (c : Code) : Prop :=
  ∀ B, B ∈ scopesIn c → ∀ l rest, findLabel B l = some rest → ∀ k sp, lkey rest = some k → find (k + 1000000) L = some sp → SSnd C n kp B rest sp
def smallL : List (Nat × LSpec) → Bool
  | [] => true
  | (k, _) :: r => Nat.blt k 1000000 && smallL r
theorem small_find : ∀ {L : List (Nat × LSpec)} {k : Nat}, smallL L = true → find (k + 1000000) L = none
  | [], k, _ => rfl
  | (j, sp) :: r, k, h => by
    simp only [smallL, Bool.and_eq_true] at h
    have hj : j < 1000000 := Nat.lt_of_succ_le (Nat.le_of_ble_eq_true h.1)
    simp only [find]
    cases hb : Nat.beq j (k + 1000000) with
    | true => have := Nat.eq_of_beq_eq_true hb; omega
    | false => rw [cond_false]; exact small_find h.2
theorem sok_small {C : Cfg} {n : Nat} {kp : List Nat} {L : List (Nat × LSpec)} (h : smallL L = true) (c : Code) : SOk C n kp L c := fun B _ l rest _ k sp _ hf => by rw [small_find h] at hf; cases hf

section
variable {C : Cfg} {n : Nat} {kp : List Nat} {T : List (Nat × Spec)} {L : List (Nat × LSpec)}

theorem pexec_ok {D : List Deferred} (hT : ∀ p, p ∈ T → Snd C p.1 p.2) {R : Type} : ∀ (f : Nat),
    (∀ (c : Code) (s : St) (K : PX → St → Option R) (r : R), (∀ body, body ∈ loopsIn c → ∀ k sp, lkey body = some k → find k L = some sp → LSnd C n kp body sp) → SOk C n kp L c → pexec C n kp T L f c s K = some r → ∀ (G : Gh C.gl) a w, Abs D n G s a w → c.wp C.P (Post D n kp G a w K r) a w) ∧
    (∀ (B c : Code) (s : St) (K : PX → St → Option R) (r : R), (∀ body, body ∈ loopsIn B → ∀ k sp, lkey body = some k → find k L = some sp → LSnd C n kp body sp) → (∀ body, body ∈ loopsIn c → body ∈ loopsIn B) → SOk C n kp L (.scope B) → (∀ B', B' ∈ scopesIn c → B' ∈ scopesIn B) → pscope C n kp T L f B c s K = some r → ∀ (G : Gh C.gl) a w, Abs D n G s a w → ScopeWp C.P B c (Post D n kp G a w K r) a w)
  | 0 => ⟨fun c s K r _ _ h => by simp [pexec] at h, fun B c s K r _ _ _ _ h => by simp [pscope] at h⟩
  | f + 1 => by
    obtain ⟨ihp, ihs⟩ := pexec_ok (D := D) hT (R := R) f
    constructor
    · intro c s K r hL hS h G a w hA
      cases c with
      | skip => exact wp_skip (.mk hA rfl h)
      | label l => exact wp_label (.mk hA rfl h)
      | exit id => exact wp_exit (.mk hA rfl h)
      | goto l => exact wp_goto (.mk hA rfl h)
      | ret => exact wp_ret (.mk hA rfl h)
      | refuse why => simp [pexec] at h
      | rangeFunc f p x y => simp [pexec] at h
      | region id ops draw =>
        cases draw with
        | true =>
          simp only [pexec] at h
          split at h
          · rename_i hm
            exact drawOps_ok hT hm h hA fun s' G' a' w' q1 q2 q3 q4 => ⟨.nx, s', G', rfl, q1, q2, q3, q4⟩
          · cases h
        | false =>
          simp only [pexec] at h
          refine wp_region_list ?_
          refine evalOps_ok hT (n := n) ops ops.toList s.env s.h kp h G a w hA.defers hA.size (fun t => RelE.of (hA.env t)) (fun t d want v hl => ?_) hA.mem (fun s' G' a' w' q1 q2 q3 q4 => ⟨.nx, s', G', rfl, q1, q2, q3, q4⟩)
          have := hA.env t
          rw [hl] at this
          cases this
      | seq x y =>
        simp only [pexec] at h
        refine wp_seq (wp_mono (ihp x s _ r (fun body hb => hL body (by simp only [loopsIn, List.mem_append]; exact .inl hb)) (fun B hb => hS B (by simp only [scopesIn, List.mem_append]; exact .inl hb)) h G a w hA) ?_)
        rintro e a' w' ⟨p, s', G', he, q1, q2, q3, q4⟩
        cases e with
        | normal =>
          simp only [PX.of, Option.some.injEq] at he
          subst he
          simp only [thenK] at q3
          refine wp_mono (ihp y s' K r (fun body hb => hL body (by simp only [loopsIn, List.mem_append]; exact .inr hb)) (fun B hb => hS B (by simp only [scopesIn, List.mem_append]; exact .inr hb)) q3 G' a' w' q1) ?_
          rintro e a'' w'' ⟨p, s'', G'', he, k1, k2, k3, k4⟩
          exact ⟨p, s'', G'', he, k1, q2.trans k2, k3, q4.trans k4⟩
        | _ => simp only [PX.of, Option.some.injEq] at he <;> first | cases he | skip
               all_goals exact ⟨_, s', G', rfl, q1, q2, q3, q4⟩
      | cond c x y =>
        simp only [pexec] at h
        split at h
        · rename_i b hb
          have hr : Rel G w (opnd s.env c) (a.eval c) := by
            have := opnd_rel (G := G) (w := w) (env := s.env) (a := a) (fun t => RelE.of (hA.env t)) c
            rw [hb] at this
            rw [hb]
            exact this
          rw [hb] at hr
          generalize hcv : a.eval c = vc at hr
          cases hr
          refine wp_cond hcv ?_
          cases b with
          | true =>
            rw [cond_true] at h
            exact ihp x s K r (fun body hb => hL body (by simp only [loopsIn, List.mem_append]; exact .inl hb)) (fun B hb => hS B (by simp only [scopesIn, List.mem_append]; exact .inl hb)) h G a w hA
          | false =>
            rw [cond_false] at h
            exact ihp y s K r (fun body hb => hL body (by simp only [loopsIn, List.mem_append]; exact .inr hb)) (fun B hb => hS B (by simp only [scopesIn, List.mem_append]; exact .inr hb)) h G a w hA
        · cases h
      | block id c =>
        simp only [pexec] at h
        refine wp_block (wp_mono (ihp c s _ r hL hS h G a w hA) ?_)
        rintro e a' w' ⟨p, s', G', he, q1, q2, q3, q4⟩
        cases e with
        | exit j =>
          simp only [PX.of, Option.some.injEq] at he
          subst he
          simp only [blockK] at q3
          simp only [Exit.inBlock]
          cases hb : Nat.beq j id with
          | true =>
            rw [hb, cond_true] at q3
            rw [if_pos (Nat.eq_of_beq_eq_true hb)]
            exact ⟨.nx, s', G', rfl, q1, q2, q3, q4⟩
          | false =>
            rw [hb, cond_false] at q3
            rw [if_neg (fun e => by subst e; simp at hb)]
            exact ⟨.ex j, s', G', rfl, q1, q2, q3, q4⟩
        | _ => simp only [PX.of, Option.some.injEq] at he <;> first | cases he | skip
               all_goals exact ⟨_, s', G', rfl, q1, q2, q3, q4⟩
      | loop body =>
        simp only [pexec] at h
        split at h
        · rename_i k hk
          split at h
          · rename_i sp hsp
            split at h
            · rename_i x hx
              obtain ⟨y, hy, h⟩ := Option.bind_eq_some_iff.1 h
              obtain ⟨G1, hA1, hE1⟩ := slots_ok hA hx
              rw [xElim_at] at h
              refine wp_mono (hL body (by simp [loopsIn]) k sp hk hsp D x y hy G1 a w hA1) ?_
              rintro e a' w' ⟨G', he, q1, q2, q3⟩
              exact ⟨_, _, G', he, q1, hE1.trans q2, h, q3⟩
            · cases h
          · cases h
        · cases h
      | scope body =>
        simp only [pexec] at h
        exact scopeWp_wp (ihs body body s K r hL (fun _ hb => hb) hS (fun _ hb => hb) h G a w hA)
    · intro B c s K r hL hsub hS hsub2 h G a w hA
      simp only [pscope] at h
      refine scopeWp_of (wp_mono (ihp c s _ r (fun body hb => hL body (hsub body hb)) (fun B' hb => hS B' (List.mem_cons_of_mem _ (hsub2 B' hb))) h G a w hA) ?_)
      rintro e a' w' ⟨p, s', G', he, q1, q2, q3, q4⟩
      cases e with
      | goto l =>
        simp only [PX.of, Option.some.injEq] at he
        subst he
        simp only [scopeQ]
        dsimp only at q3
        split at q3
        · rename_i rest hf
          rw [hf]
          have plain : pscope C n kp T L f B rest s' K = some r → ScopeWp C.P B rest (Post D n kp G a w K r) a' w' := fun q3 => by
            refine ScopeWp.mono (ihs B rest s' K r hL (findLabel_loops hf) hS (findLabel_scopes hf) q3 G' a' w' q1) ?_
            rintro e a'' w'' ⟨p, s'', G'', he, k1, k2, k3, k4⟩
            exact ⟨p, s'', G'', he, k1, q2.trans k2, k3, q4.trans k4⟩
          split at q3
          · rename_i k hk
            split at q3
            · rename_i sp hsp
              split at q3
              · rename_i x hx
                obtain ⟨y, hy, q3⟩ := Option.bind_eq_some_iff.1 q3
                obtain ⟨G1, hA1, hE1⟩ := slots_ok q1 hx
                rw [xElim_at] at q3
                refine ScopeWp.mono (hS B (List.mem_cons_self ..) l rest hf k sp hk hsp D x y hy G1 a' w' hA1) ?_
                rintro e a'' w'' ⟨G'', he, k1, k2, k3⟩
                exact ⟨_, _, G'', he, k1, (q2.trans hE1).trans k2, q3, q4.trans k3⟩
              · cases q3
            · exact plain q3
          · exact plain q3
        · rename_i hf
          rw [hf]
          exact ⟨_, s', G', rfl, q1, q2, q3, q4⟩
      | _ => simp only [PX.of, Option.some.injEq] at he <;> first | cases he | skip
             all_goals exact ⟨_, s', G', rfl, q1, q2, q3, q4⟩

/-- A loop does what its rounds say. -/
theorem lsnd_of (hT : ∀ p, p ∈ T → Snd C p.1 p.2) (f : Nat) (head : Slots) (exits : List (PX × Slots)) (body : Code) (hL : ∀ c, c ∈ loopsIn body → ∀ k sp, lkey c = some k → find k L = some sp → LSnd C n kp c sp) (hS : SOk C n kp L body) :
    ∀ k, LSnd C n kp body ⟨head, exits, loopF C n kp T L f head exits body k⟩ := by
  have key : ∀ (D : List Deferred) k x y, loopF C n kp T L f head exits body k x = some y → ∀ (G : Gh C.gl) a w, Abs D n G (slotsMk head x) a w →
      LoopWp C.P body (fun e a' w' => ∃ G' : Gh C.gl, PX.of e = some (xAt exits y).1 ∧ Abs D n G' (xAt exits y).2 a' w' ∧ Ext G w G' w' ∧ Keep kp a a') a w := by
    intro D k
    induction k with
    | zero => intro x y h; simp [loopF] at h
    | succ k ih =>
      intro x y h G a w hA
      simp only [loopF] at h
      refine loopWp_unroll (wp_mono ((pexec_ok hT (R := XD exits) f).1 body _ _ y hL hS h G a w hA) ?_)
      rintro e a' w' ⟨p, s', G', he, q1, q2, q3, q4⟩
      cases e with
      | normal =>
        simp only [PX.of, Option.some.injEq] at he
        subst he
        dsimp only at q3
        split at q3
        · rename_i z hz
          obtain ⟨G1, hA1, hE1⟩ := slots_ok q1 hz
          intro b kk cs
          obtain ⟨e, a'', w'', ⟨G'', k1, k2, k3, k4⟩, harr⟩ := ih z y q3 G1 a' w' hA1 b kk cs
          exact ⟨e, a'', w'', ⟨G'', k1, k2, (q2.trans hE1).trans k3, q4.trans k4⟩, harr⟩
        · cases q3
      | panic ch => simp [PX.of] at he
      | outgrown => simp [PX.of] at he
      | _ =>
        simp only [PX.of, Option.some.injEq] at he
        subst he
        obtain ⟨e1, G1, hA1, hE1⟩ := xInj_ok q1 exits q3
        exact ⟨G1, by rw [e1]; rfl, hA1, q2.trans hE1, q4⟩
  intro k D x y h G a w hA
  exact loopWp_wp (key D k x y h G a w hA)
/-- A jump back does what its rounds say. -/
theorem ssnd_of (hT : ∀ p, p ∈ T → Snd C p.1 p.2) (f : Nat) (head : Slots) (exits : List (PX × Slots)) {B rest : Code} {l : Nat} (hf : findLabel B l = some rest) (hL : ∀ c, c ∈ loopsIn rest → ∀ k sp, lkey c = some k → find k L = some sp → LSnd C n kp c sp) (hS : SOk C n kp L rest) :
    ∀ k, SSnd C n kp B rest ⟨head, exits, scopeF C n kp T L f head exits B rest l k⟩ := by
  intro k
  induction k with
  | zero => intro D x y h; simp [scopeF] at h
  | succ k ih =>
    intro D x y h G a w hA
    simp only [scopeF] at h
    refine scopeWp_of (wp_mono ((pexec_ok hT (R := XD exits) f).1 rest _ _ y hL hS h G a w hA) ?_)
    rintro e a' w' ⟨p, s', G', he, q1, q2, q3, q4⟩
    cases e with
    | goto l' =>
      simp only [PX.of, Option.some.injEq] at he
      subst he
      simp only [scopeQ]
      dsimp only at q3
      split at q3
      · rename_i hl
        have hl : l' = l := by simpa using hl
        subst hl
        rw [hf]
        split at q3
        · rename_i z hz
          obtain ⟨G1, hA1, hE1⟩ := slots_ok q1 hz
          refine ScopeWp.mono (ih D z y q3 G1 a' w' hA1) ?_
          rintro e a'' w'' ⟨G'', k1, k2, k3, k4⟩
          exact ⟨G'', k1, k2, (q2.trans hE1).trans k3, q4.trans k4⟩
        · cases q3
      · split at q3
        · cases q3
        · rename_i hn
          rw [hn]
          obtain ⟨e1, G1, hA1, hE1⟩ := xInj_ok q1 exits q3
          exact ⟨G1, by rw [e1]; rfl, hA1, q2.trans hE1, q4⟩
    | panic ch => simp [PX.of] at he
    | outgrown => simp [PX.of] at he
    | _ =>
      simp only [PX.of, Option.some.injEq] at he
      subst he
      obtain ⟨e1, G1, hA1, hE1⟩ := xInj_ok q1 exits q3
      exact ⟨G1, by rw [e1]; rfl, hA1, q2.trans hE1, q4⟩
end
end Go.Pv
