/- The engine, part 12: regions. -/
import Derived.Test.YtfnhnkaikpgnbaaPv11
import Derived.Test.YtfnhnkaikpgnbaaPvRw
namespace Go.Pv
open Go
set_option linter.all false
set_option linter.constructorNameAsVariable false
set_option linter.unusedSectionVars false
set_option linter.unusedVariables false
set_option linter.unusedSimpArgs false

section
variable {C : Cfg}

theorem bare_o {h : List Ob} : ∀ (shs : List Sh) {vs : List V} {x : shsDen shs} {o : List (Option Nat)} {b : List Nat}, shs.all Sh.bare = true → shsRd h shs vs = some (x, o, b) → o = []
  | [], vs, x, o, b, hb, hr => by
    cases vs with
    | nil => simp only [shsRd, Option.some.injEq, Prod.mk.injEq] at hr; exact hr.2.1.symm
    | cons => simp [shsRd] at hr
  | s :: r, [], x, o, b, hb, hr => by cases s <;> simp [shsRd] at hr
  | s :: r, v :: vs, x, o, b, hb, hr => by
    simp only [List.all_cons, Bool.and_eq_true] at hb
    cases s with
    | t τ =>
      simp only [shsRd] at hr
      split at hr
      · split at hr
        · rename_i hz
          simp only [Option.some.injEq, Prod.mk.injEq] at hr
          obtain ⟨_, rfl, _⟩ := hr
          exact bare_o r hb.2 hz
        · cases hr
      · cases hr
    | cptr τs =>
      simp only [shsRd] at hr
      split at hr
      · split at hr
        · split at hr
          · rename_i hz
            simp only [Option.some.injEq, Prod.mk.injEq] at hr
            obtain ⟨_, rfl, _⟩ := hr
            exact bare_o r hb.2 hz
          · cases hr
        · cases hr
      · split at hr
        · split at hr
          · split at hr
            · rename_i hz
              simp only [Option.some.injEq, Prod.mk.injEq] at hr
              obtain ⟨_, rfl, _⟩ := hr
              exact bare_o r hb.2 hz
            · cases hr
          · cases hr
        · cases hr
      · cases hr
    | fn f k =>
      simp only [shsRd] at hr
      split at hr
      · split at hr
        · split at hr
          · rename_i hz
            simp only [Option.some.injEq, Prod.mk.injEq] at hr
            obtain ⟨_, rfl, _⟩ := hr
            exact bare_o r hb.2 hz
          · cases hr
        · cases hr
      · cases hr
    | row e => simp [Sh.bare] at hb
    | mrow e => simp [Sh.bare] at hb
    | mp => simp [Sh.bare] at hb
    | rw e => simp [Sh.bare] at hb
    | ptr fs => simp [Sh.bare] at hb
termination_by shs => shs.length

theorem flat_bare {s : Sh} (h : s.flat = true) : s.bare = true := by cases s <;> first | rfl | (simp [Sh.flat] at h; done)
theorem flat_objs (j : Nat) : ∀ (shs : List Sh) (x : shsDen shs), shs.all Sh.flat = true → (shsMk j shs x).2 = []
  | [], x, h => rfl
  | s :: r, x, h => by
    simp only [List.all_cons, Bool.and_eq_true] at h
    cases s with
    | t τ => exact flat_objs j r x.2 h.2
    | _ => simp [Sh.flat] at h

/-- The machine's values of what is handed back. -/
def updVals : List Sh → List Value → List Value
  | .mrow _ :: r, v :: vs => v :: updVals r vs
  | .ptr _ :: r, v :: vs => v :: updVals r vs
  | .fn _ _ :: r, .func _ _ caps :: vs => updVals r (caps.toList ++ vs)
  | _ :: r, _ :: vs => updVals r vs
  | _, _ => []

/-- What a function does, told where it is called. -/
structure Snd (C : Cfg) (fid : Nat) (sp : Spec) : Prop where
  enters : ∀ (args : Array Value) (w : World), (callFunc fid args).run C.P w = .ok (.enter fid args) w
  does : ∀ x y, sp.F x = some y → ∀ (G : Gh C.gl) (w : World) (h : List Ob) (vs : List V) (o : List (Option Nat)) (b : List Nat) (vals : List Value), Mem G w h → Rels G w vs vals → shsRd h sp.ins vs = some (x, o, b) →
    (sp.plain = true ∨ (apartB o b = true ∧ b = [])) →
    Calls C.P fid vals.toArray w fun e w' => ∃ v G', e = .returned v ∧ Mem G' w' (aftM h o sp y) ∧ Rel G' w' (aftV h sp y) v ∧ Rels G' w' (shsMk h.length (shsUpd sp.ins) y.2).1 (updVals sp.ins vals) ∧ Subs G w G' w' ∧ Ext G w G' w'

theorem upd_rels {G : Gh C.gl} {w : World} {h : List Ob} : ∀ (shs : List Sh) {vs : List V} {x : shsDen shs} {o : List (Option Nat)} {b : List Nat} {vals : List Value}, shsRd h shs vs = some (x, o, b) → Rels G w vs vals → Rels G w (shsUpdV shs vs) (updVals shs vals)
  | [], vs, x, o, b, vals, hr, hv => by
    cases vs with
    | nil => simp only [shsUpdV, updVals]; exact Rels.nil
    | cons => simp [shsRd] at hr
  | s :: r, [], x, o, b, vals, hr, hv => by cases s <;> simp [shsRd] at hr
  | s :: r, v :: vs, x, o, b, [], hr, hv => by have := hv.1; simp at this
  | .t τ :: r, v :: vs, x, o, b, val :: vals, hr, hv => by
    simp only [shsRd] at hr
    split at hr
    · split at hr
      · rename_i hz
        simp only [shsUpdV, updVals]
        exact upd_rels r hz hv.tail
      · cases hr
    · cases hr
  | .row e :: r, v :: vs, x, o, b, val :: vals, hr, hv => by
    simp only [shsRd] at hr
    split at hr
    · split at hr
      · rename_i hz
        simp only [shsUpdV, updVals]
        exact upd_rels r hz hv.tail
      · cases hr
    · cases hr
  | .mrow e :: r, v :: vs, x, o, b, val :: vals, hr, hv => by
    simp only [shsRd] at hr
    split at hr
    · split at hr
      · rename_i hz
        simp only [shsUpdV, updVals]
        exact Rels.cons hv.head (upd_rels r hz hv.tail)
      · cases hr
    · cases hr
  | .mp :: r, v :: vs, x, o, b, val :: vals, hr, hv => by
    simp only [shsRd] at hr
    split at hr
    · split at hr
      · split at hr
        · rename_i hz
          simp only [shsUpdV, updVals]
          exact upd_rels r hz hv.tail
        · cases hr
      · cases hr
    · cases hr
  | .rw e :: r, v :: vs, x, o, b, val :: vals, hr, hv => by
    simp only [shsRd] at hr
    split at hr
    · split at hr
      · split at hr
        · split at hr
          · rename_i hz
            simp only [shsUpdV, updVals]
            exact upd_rels r hz hv.tail
          · cases hr
        · cases hr
      · cases hr
    · cases hr
  | .ptr fs :: r, v :: vs, x, o, b, val :: vals, hr, hv => by
    simp only [shsRd] at hr
    split at hr
    · split at hr
      · split at hr
        · split at hr
          · rename_i hz
            simp only [shsUpdV, updVals]
            exact Rels.cons hv.head (upd_rels r hz hv.tail)
          · cases hr
        · cases hr
      · cases hr
    · cases hr
  | .cptr τs :: r, v :: vs, x, o, b, val :: vals, hr, hv => by
    simp only [shsRd] at hr
    split at hr
    · split at hr
      · split at hr
        · rename_i hz
          simp only [shsUpdV, updVals]
          exact upd_rels r hz hv.tail
        · cases hr
      · cases hr
    · split at hr
      · split at hr
        · split at hr
          · rename_i hz
            simp only [shsUpdV, updVals]
            exact upd_rels r hz hv.tail
          · cases hr
        · cases hr
      · cases hr
    · cases hr
  | .fn f k :: r, v :: vs, x, o, b, val :: vals, hr, hv => by
    simp only [shsRd] at hr
    split at hr
    · rename_i f' cs
      split at hr
      · split at hr
        · rename_i hz
          have hv0 := hv.head
          cases hv0 with
          | fn _ _ caps hl hrr =>
            simp only [shsUpdV, updVals]
            refine upd_rels r hz ?_
            have ht := hv.tail
            have hcl : caps.toList.length = cs.length := by rw [Array.length_toList]; exact hl
            refine ⟨by have := ht.1; simp only [List.length_append, hcl]; omega, fun k' u y hu hy => ?_⟩
            by_cases hlt : k' < cs.length
            · rw [List.getElem?_append_left hlt] at hu
              rw [List.getElem?_append_left (by rw [Array.length_toList, hl]; exact hlt), Array.getElem?_toList] at hy
              exact hrr k' u y hu hy
            · rw [List.getElem?_append_right (by omega)] at hu
              rw [List.getElem?_append_right (by rw [Array.length_toList, hl]; omega), Array.length_toList, hl] at hy
              exact ht.2 _ u y hu hy
        · cases hr
      · cases hr
    · cases hr
termination_by shs => shs.length

def Gh.swap (G : Gh C.gl) (i j : Nat) : Gh C.gl := ⟨G.ρ, fun b o => match G.ow b o with | some id => some (if id = j then i else id) | none => none, G.I⟩

theorem mem_swap {G : Gh C.gl} {w : World} {H : List Ob} (hm : Mem G w H) {i j : Nat} {v : Value} (hi : G.ρ[i]? = some v) (hj : G.ρ[j]? = some v) : ∃ G', Mem G' w (swapO H i j) ∧ Subs G w G' w ∧ Ext G w G' w := by
  unfold swapO
  rw [nth_eq]
  cases hob : H[j]? with
  | none => exact ⟨G, hm, .refl _ _, .refl _ _⟩
  | some ob =>
    dsimp only
    rw [setn_eq, setn_eq]
    have hil : i < H.length := by rw [← hm.len]; exact (List.getElem?_eq_some_iff.1 hi).1
    have hs : Subs G w (G.swap i j) w := ⟨fun _ _ k => ⟨k, rfl⟩, fun _ _ k => k⟩
    refine ⟨G.swap i j, ⟨by simp [hm.len, Gh.swap], hm.one, fun id x hx => ?_, fun b o k => ?_, fun b o id k => ?_, gl_sub hs hm.gl⟩, hs, ⟨fun _ _ k => k, Nat.le_refl _, fun b o _ k => ⟨by simp only [Gh.swap, k], rfl, rfl⟩, fun _ _ _ => rfl, fun _ _ _ k => .inl k, Rest.refl _⟩⟩
    · by_cases hidj : j = id
      · subst hidj
        rw [List.getElem?_set_self (by simp; exact (List.getElem?_eq_some_iff.1 hob).1)] at hx
        injection hx with hx
        subst hx
        exact ⟨v, hj⟩
      · rw [List.getElem?_set_ne hidj] at hx
        by_cases hidi : i = id
        · subst hidi
          rw [List.getElem?_set_self hil] at hx
          injection hx with hx
          subst hx
          have hO := hm.obj j ob hob
          cases ob with
          | box vs =>
            obtain ⟨b, o, h1, h2⟩ := hO
            refine ⟨b, o, by rw [hj] at h1; rw [← h1]; exact hi, fun k u hu => ?_⟩
            obtain ⟨q1, q2, val, q3, q4⟩ := h2 k u hu
            exact ⟨by simp only [Gh.swap, q1, if_true], q2, val, q3, q4.mono hs⟩
          | row e xs =>
            rcases hO with ⟨h1, h2⟩ | ⟨b, o, cap, h1, h2, h3, h4⟩
            · exact .inl ⟨by rw [hj] at h1; rw [← h1]; exact hi, h2⟩
            · refine .inr ⟨b, o, cap, by rw [hj] at h1; rw [← h1]; exact hi, h2, fun k hk => ?_, fun a x k u ha hu => ?_⟩
              · obtain ⟨q1, q2, q3, q5⟩ := h3 k hk
                exact ⟨by simp only [Gh.swap, q1, if_true], q2, q3, q5.keep fun _ q => ⟨by simp only [Gh.swap, q, if_true], rfl⟩⟩
              · obtain ⟨val, q1, q2⟩ := h4 a x k u ha hu
                exact ⟨val, q1, q2.mono hs⟩
          | fro e xs =>
            obtain ⟨u, h1, h2⟩ := hO
            exact ⟨u, by rw [hj] at h1; rw [← h1]; exact hi, h2.mono hs⟩
          | mp es =>
            obtain ⟨b, h1, h2, h3⟩ := hO
            exact ⟨b, by rw [hj] at h1; rw [← h1]; exact hi, fun o => by simp only [Gh.swap, h2 o, if_true], h3⟩
          | dead => exact ⟨v, hi⟩
          | rw e xss hole =>
            obtain ⟨b, o, cap, sub, h1, h2⟩ := hO
            exact ⟨b, o, cap, sub, by rw [hj] at h1; rw [← h1]; exact hi, h2.keep hs fun b o k => ⟨by simp only [Gh.swap, k, if_true], rfl, rfl⟩⟩
        · rw [List.getElem?_set_ne hidi] at hx
          refine Obj.keep hs (fun b o k => ⟨?_, rfl, rfl⟩) (hm.obj id x hx)
          simp only [Gh.swap, k, if_neg (fun e => hidj (Eq.symm e))]
    · obtain ⟨k1, k2⟩ := hm.I b o k
      exact ⟨by simp only [Gh.swap, k1], k2⟩
    · simp only [Gh.swap] at k
      split at k
      · rename_i id' hid'
        injection k with k
        have := hm.ow b o id' hid'
        rw [List.length_set, List.length_set]
        refine ⟨?_, this.2⟩
        rw [← k]
        split
        · exact hil
        · exact this.1
      · cases k

theorem swapV_ok {w : World} : ∀ (us us' : List V) {G : Gh C.gl} {H : List Ob} {vals : List Value}, Mem G w H → Rels G w us vals → Rels G w us' vals → ∃ G', Mem G' w (swapV H us us') ∧ Subs G w G' w ∧ Ext G w G' w
  | [], us', G, H, vals, hm, h1, h2 => ⟨G, by simpa only [swapV] using hm, .refl _ _, .refl _ _⟩
  | u :: r, [], G, H, vals, hm, h1, h2 => ⟨G, by simpa only [swapV] using hm, .refl _ _, .refl _ _⟩
  | u :: r, u' :: r', G, H, [], hm, h1, h2 => by have := h1.1; simp at this
  | u :: r, u' :: r', G, H, val :: vals, hm, h1, h2 => by
    have step : ∃ G', Mem G' w (swap1 H u u') ∧ Subs G w G' w ∧ Ext G w G' w := by
      have e1 := h1.head
      have e2 := h2.head
      unfold swap1
      split
      · cases e1 with
        | row _ _ g1 => cases e2 with | row _ _ g2 => exact mem_swap hm g1 g2
      · cases e1 with
        | ptr _ _ b o g1 =>
          generalize hval : Value.pointer (some ⟨b, o + 0, none⟩) = val at *
          cases e2 with
          | ptr _ _ b' o' g2 =>
            simp only [Value.pointer.injEq, Option.some.injEq, Addr.mk.injEq, Nat.add_zero] at hval
            obtain ⟨rfl, rfl, _⟩ := hval
            exact mem_swap hm g1 g2
      · exact ⟨G, hm, .refl _ _, .refl _ _⟩
    obtain ⟨G1, k1, k2, k3⟩ := step
    obtain ⟨G2, q1, q2, q3⟩ := swapV_ok r r' k1 ⟨h1.tail.1, fun k v x hv hx => (h1.tail.2 k v x hv hx).mono k2⟩ ⟨h2.tail.1, fun k v x hv hx => (h2.tail.2 k v x hv hx).mono k2⟩
    exact ⟨G2, by simpa only [swapV] using q1, k2.trans q2, k3.trans q3⟩

theorem froIds_ok {w : World} : ∀ (b : List Nat) {G : Gh C.gl} {h : List Ob}, Mem G w h → ∃ G', Mem G' w (froIds h b) ∧ Subs G w G' w ∧ Ext G w G' w
  | [], G, h, hm => ⟨G, hm, .refl _ _, .refl _ _⟩
  | i :: r, G, h, hm => by
    have step : ∃ G', Mem G' w (fro1 h (.row i)) ∧ Subs G w G' w ∧ Ext G w G' w := by
      simp only [fro1, nth_eq]
      split
      · rename_i e xs hi
        rw [setn_eq]
        exact ⟨_, mem_freeze hm hi⟩
      · exact ⟨G, hm, .refl _ _, .refl _ _⟩
    obtain ⟨G1, h1, h2, h3⟩ := step
    obtain ⟨G2, k1, k2, k3⟩ := froIds_ok r h1
    exact ⟨G2, k1, h2.trans k2, h3.trans k3⟩

def CallDid (C : Cfg) (fid : Nat) (G : Gh C.gl) (w : World) (vals : List Value) (v : V) (h' : List Ob) : Prop :=
  Calls C.P fid vals.toArray w fun e w' => ∃ val G', e = .returned val ∧ Mem G' w' h' ∧ Rel G' w' v val ∧ Subs G w G' w' ∧ Ext G w G' w'

def CallOk (C : Cfg) (fid : Nat) (G : Gh C.gl) (w : World) (vals : List Value) : Out → Prop
  | .no => True
  | .call _ _ o v h' => (∀ (args : Array Value) (w : World), (callFunc fid args).run C.P w = .ok (.enter fid args) w) ∧ ∀ y, o = some y → CallDid C fid G w vals (v y) (h' y)
  | _ => False

theorem callV_ok {fid : Nat} {G : Gh C.gl} {w : World} {h : List Ob} (hm : Mem G w h) {vs : List V} {vals : List Value} (hv : Rels G w vs vals) : ∀ (T : List (Nat × Spec)), (∀ p, p ∈ T → Snd C p.1 p.2) → CallOk C fid G w vals (callV fid h vs T)
  | [], hT => trivial
  | (g, sp) :: r, hT => by
    have ih := callV_ok (fid := fid) hm hv r (fun p hp => hT p (List.mem_cons_of_mem _ hp))
    unfold callV
    cases hg : Nat.beq g fid with
    | false => rw [cond_false]; exact ih
    | true =>
      rw [cond_true]
      have hgf := Nat.eq_of_beq_eq_true hg
      subst hgf
      have hs := hT _ (List.mem_cons_self ..)
      dsimp only at hs
      split
      · rename_i x1 o1 b1 hrd1
        dsimp only
        have fro : ∃ G1, Mem G1 w (bif sp.plain then h else froIds h b1) ∧ Subs G w G1 w ∧ Ext G w G1 w := by
          cases sp.plain with
          | true => exact ⟨G, hm, .refl _ _, .refl _ _⟩
          | false => exact froIds_ok b1 hm
        generalize (bif sp.plain then h else froIds h b1) = H at fro
        obtain ⟨G1, f1, f2, f3⟩ := fro
        split
        · rename_i x o2 b' hrd
          split
          · rename_i hcond
            refine ⟨hs.enters, fun y hy => ?_⟩
            have hcond' : sp.plain = true ∨ (apartB o2 b' = true ∧ b' = []) := by
              rw [Bool.or_eq_true, Bool.and_eq_true] at hcond
              exact hcond.imp id fun k => ⟨k.1, List.isEmpty_iff.1 k.2⟩
            have hv1 : Rels G1 w vs vals := ⟨hv.1, fun k u val hu hval => (hv.2 k u val hu hval).mono f2⟩
            refine Calls.mono (hs.does x y hy G1 w _ vs _ _ vals f1 hv1 hrd hcond') ?_
            rintro e w' ⟨val, G', he, q1, q2, q3, q4, q5⟩
            have hu := upd_rels sp.ins hrd hv1
            obtain ⟨G2, m1, m2, m3⟩ := swapV_ok _ _ q1 (⟨hu.1, fun k u val hu' hval => (hu.2 k u val hu' hval).mono q4⟩ : Rels G' w' (shsUpdV sp.ins vs) _) q3
            exact ⟨val, G2, he, m1, q2.mono m2, f2.trans (q4.trans m2), f3.trans (q5.trans m3)⟩
          · trivial
        · trivial
      · exact ih

theorem callV_form {fid : Nat} {h : List Ob} {vs : List V} : ∀ (T : List (Nat × Spec)) {v : V} {h' : List Ob}, callV fid h vs T ≠ .val v h' ∧ ∀ {c : Bool}, callV fid h vs T ≠ .chk c v h'
  | [], v, h' => ⟨fun e => by simp [callV] at e, fun e => by simp [callV] at e⟩
  | (g, sp) :: r, v, h' => by
    have ih := callV_form (fid := fid) (h := h) (vs := vs) r (v := v) (h' := h')
    unfold callV
    cases hg : Nat.beq g fid with
    | false => simp only [cond_false]; exact ih
    | true =>
      simp only [cond_true]
      constructor
      · intro e
        split at e
        · split at e
          · split at e <;> cases e
          · cases e
        · exact ih.1 e
      · intro c e
        split at e
        · split at e
          · split at e <;> cases e
          · cases e
        · exact ih.2 e

theorem mk_bare (j : Nat) : ∀ (shs : List Sh), shs.all Sh.bare = true → ∀ (y : shsDen (shsUpd shs)), shsMk j (shsUpd shs) y = ([], [])
  | [], _, y => rfl
  | s :: r, h, y => by
    simp only [List.all_cons, Bool.and_eq_true] at h
    cases s <;> first | exact mk_bare j r h.2 y | (simp [Sh.bare] at h; done)

theorem aft_plain {h : List Ob} {sp : Spec} (hp : sp.plain = true) {vs : List V} {x : shsDen sp.ins} {o : List (Option Nat)} {b : List Nat} {h0 : List Ob} (hr : shsRd h0 sp.ins vs = some (x, o, b)) (y : shsDen sp.outs × shsDen (shsUpd sp.ins)) : aftM h o sp y = h ∧ aftH h o sp vs y = h := by
  unfold Spec.plain at hp
  rw [Bool.and_eq_true] at hp
  have ho := bare_o sp.ins hp.2 hr
  subst ho
  have e := mk_bare h.length sp.ins hp.2 y.2
  have e1 : aftM h [] sp y = h := by
    unfold aftM
    rw [e]
    dsimp only
    rw [flat_objs _ _ _ hp.1]
    simp [somes, kill]
  refine ⟨e1, ?_⟩
  unfold aftH
  rw [e1, e]
  cases shsUpdV sp.ins vs <;> rfl

theorem calmCall {fid : Nat} {h : List Ob} {vs : List V} : ∀ (T : List (Nat × Spec)), calmSpec fid T = true → match callV fid h vs T with
    | .call _ _ _ _ h' => ∀ y, h' y = h
    | _ => True
  | [], _ => trivial
  | (g, sp) :: r, hc => by
    simp only [calmSpec, Bool.and_eq_true] at hc
    have ih := calmCall (h := h) (vs := vs) r hc.2
    unfold callV
    cases hg : Nat.beq g fid with
    | false => rw [cond_false]; exact ih
    | true =>
      rw [cond_true]
      rw [hg, cond_true] at hc
      cases h1 : shsRd h sp.ins vs with
      | none => exact ih
      | some p =>
        obtain ⟨x, o, b⟩ := p
        dsimp only
        rw [hc.1, cond_true, h1]
        exact fun y => (aft_plain hc.1 h1 y).2

/-! ### one operation more -/
theorem look_cons (t d : Nat) (v : V) (env : Env) : look t ((d, v) :: env) = if d = t then v else look t env := by
  simp only [look]
  cases hb : Nat.beq d t with
  | true => rw [cond_true, if_pos (Nat.eq_of_beq_eq_true hb)]
  | false => rw [cond_false, if_neg (fun e => by subst e; simp at hb)]

def GsOk (env : Env) (gs : List Nat) : Prop := ∀ (t d : Nat) (want : Bool) (v : V), look t env = .g d want v → d ∈ gs

theorem getD_set (tmps : Array Value) (d t : Nat) (val : Value) (hd : d < tmps.size) : (tmps.setIfInBounds d val).getD t undef = if d = t then val else tmps.getD t undef := by
  rw [Array.getD_eq_getD_getElem?, Array.getD_eq_getD_getElem?]
  by_cases h : d = t
  · subst h
    rw [if_pos rfl, Array.getElem?_setIfInBounds_self_of_lt hd]
    rfl
  · rw [if_neg h, Array.getElem?_setIfInBounds_ne h]

theorem env_put {G G' : Gh C.gl} {w w' : World} {env : Env} {tmps : Array Value} {d : Nat} {v : V} {val : Value} {gs : List Nat} (he : EnvR G w env tmps) (hs : Subs G w G' w') (hg : GsOk env gs) (hd : d < tmps.size) (hn : d ∉ gs)
    (hv : RelE G' w' (tmps.setIfInBounds d val) v val) : EnvR G' w' ((d, v) :: env) (tmps.setIfInBounds d val) := by
  intro t
  rw [look_cons, getD_set _ _ _ _ hd]
  by_cases h : d = t
  · rw [if_pos h, if_pos h]
    exact hv
  · rw [if_neg h, if_neg h]
    have h1 := (he t).mono hs
    cases hl : look t env with
    | g d0 want u =>
      rw [hl] at h1
      have hne : ¬ d = d0 := fun e => hn (e ▸ hg t d0 want u hl)
      have e1 : (tmps.setIfInBounds d val).getD d0 undef = tmps.getD d0 undef := by rw [getD_set _ _ _ _ hd, if_neg hne]
      show (_ → _) ∧ (_ → _)
      rw [e1]
      exact h1
    | _ => rw [hl] at h1; exact h1

/-- A slot's value told anew. -/
theorem env_told {G : Gh C.gl} {w : World} {env : Env} {tmps : Array Value} {d : Nat} {v : V} (he : EnvR G w env tmps) (hv : RelE G w tmps v (tmps.getD d undef)) : EnvR G w ((d, v) :: env) tmps := by
  intro t
  rw [look_cons]
  by_cases h : d = t
  · rw [if_pos h, ← h]; exact hv
  · rw [if_neg h]; exact he t

theorem gs_put {env : Env} {gs : List Nat} {d : Nat} {v : V} (hg : GsOk env gs) (hv : ∀ d0 want u, v = .g d0 want u → d0 ∈ gs) : GsOk ((d, v) :: env) gs := by
  intro t d0 want u hl
  rw [look_cons] at hl
  split at hl
  · exact hv d0 want u hl
  · exact hg t d0 want u hl
theorem gs_more {env : Env} {gs : List Nat} {d : Nat} (hg : GsOk env gs) : GsOk env (d :: gs) := fun t d0 want u hl => List.mem_cons_of_mem _ (hg t d0 want u hl)

theorem rel_not_g {G : Gh C.gl} {w : World} {v : V} {val : Value} (h : Rel G w v val) : ∀ d0 want u, v ≠ .g d0 want u := by
  intro d0 want u e
  subst e
  cases h

theorem putE_some {n : Nat} {env env' : Env} {gs : List Nat} {dst : Option Nat} {v : V} (h : putE n env gs dst v = some env') : (dst = none ∧ env' = env) ∨ ∃ d, dst = some d ∧ d < n ∧ d ∉ gs ∧ env' = (d, v) :: env := by
  cases dst with
  | none => simp only [putE, Option.some.injEq] at h; exact .inl ⟨rfl, h.symm⟩
  | some d =>
    simp only [putE] at h
    split at h
    · rename_i hb
      rw [Bool.and_eq_true] at hb
      injection h with h
      refine .inr ⟨d, rfl, ?_, fun hm => ?_, h.symm⟩
      · have h0 := hb.1
        unfold Nat.blt at h0
        exact Nat.le_of_ble_eq_true h0
      · have := List.all_eq_true.1 hb.2 d hm
        simp at this
    · cases h

/-- Behind an operation: its value put where it goes. -/
theorem put_env {n : Nat} {G G' : Gh C.gl} {w w' : World} {env env' : Env} {a : Act} {o : Oper} {v : V} {val : Value} {gs : List Nat} (hn : a.tmps.size = n) (he : EnvR G w env a.tmps) (hs : Subs G w G' w') (hg : GsOk env gs)
    (hp : putE n env gs o.dst v = some env') (hv : ∀ tmps', (∀ d, d ∈ gs → tmps'.getD d undef = a.tmps.getD d undef) → RelE G' w' tmps' v val) (hvg : ∀ d0 want u, v = .g d0 want u → d0 ∈ gs) :
    EnvR G' w' env' (a.put o.dst val).tmps ∧ (a.put o.dst val).tmps.size = n ∧ (a.put o.dst val).defers = a.defers ∧ GsOk env' gs := by
  rcases putE_some hp with ⟨h1, h2⟩ | ⟨d, h1, h2, h3, h4⟩
  · subst h2
    rw [h1]
    exact ⟨fun t => (he t).mono hs, hn, rfl, hg⟩
  · subst h4
    rw [h1]
    refine ⟨env_put he hs hg (by rw [hn]; exact h2) h3 (hv _ fun d' hd' => ?_), by simp [Act.put, hn], rfl, gs_put hg hvg⟩
    rw [getD_set _ _ _ _ (by rw [hn]; exact h2), if_neg (fun (e : d = d') => h3 (e ▸ hd'))]

theorem put_keep {n : Nat} {env env' : Env} {a : Act} {dst : Option Nat} {v : V} {val : Value} {gs : List Nat} (hn : a.tmps.size = n) (hp : putE n env gs dst v = some env') : ∀ d, d ∈ gs → (a.put dst val).tmps.getD d undef = a.tmps.getD d undef := by
  intro d hd
  rcases putE_some hp with ⟨h1, _⟩ | ⟨d', h1, h2, h3, _⟩
  · rw [h1]; rfl
  · rw [h1]
    show (a.tmps.setIfInBounds d' val).getD d undef = _
    rw [getD_set _ _ _ _ (by rw [hn]; exact h2), if_neg (fun (e : d' = d) => h3 (e ▸ hd))]

theorem condG_ok {G : Gh C.gl} {w : World} {env : Env} {tmps : Array Value} (he : EnvR G w env tmps) : ∀ (f d : Nat) (want : Bool) {x : Bool}, condG env f d want = some x → (x = true ↔ tmps.getD d undef = .bool want)
  | 0, d, want, x, h => by simp [condG] at h
  | f + 1, d, want, x, h => by
    have h1 := he d
    simp only [condG] at h
    split at h
    · rename_i y hl
      rw [hl] at h1
      generalize tmps.getD d undef = z at h1
      cases h1
      injection h with h
      subst h
      cases want <;> cases y <;> simp
    · rename_i d' want' y hl
      rw [hl] at h1
      split at h
      · rename_i x' hx'
        injection h with h
        have ih := condG_ok he f d' want' hx'
        obtain ⟨k1, k2⟩ := (h1 : (_ → _) ∧ (_ → _))
        by_cases hm : tmps.getD d' undef = .bool want'
        · have k3 := k1 hm
          have hx : x' = true := ih.2 hm
          subst hx
          subst h
          generalize tmps.getD d undef = z at k3
          cases k3
          cases want <;> cases y <;> simp
        · have k3 := k2 hm
          have hx : x' = false := by
            cases hb : x' with
            | true => exact absurd (ih.1 hb) hm
            | false => rfl
          subst hx
          subst h
          rw [k3]
          simp [undef]
      · cases h
    · cases h

theorem actG_met {G : Gh C.gl} {w : World} {env : Env} {tmps : Array Value} (he : EnvR G w env tmps) : ∀ (f d : Nat) (want : Bool), tmps.getD d undef = .bool want → Met tmps (actG env f d want)
  | 0, d, want, h => fun p hp => by simp [actG] at hp
  | f + 1, d, want, h => by
    intro p hp
    simp only [actG, List.mem_cons] at hp
    rcases hp with rfl | hp
    · exact h
    · have h1 := he d
      split at hp
      · rename_i d' want' u hl
        rw [hl] at h1
        obtain ⟨k1, k2⟩ := (h1 : (_ → _) ∧ (_ → _))
        refine actG_met he f d' want' ?_ p hp
        by_cases hm : tmps.getD d' undef = .bool want'
        · exact hm
        · have := k2 hm
          rw [h] at this
          simp [undef] at this
      · cases hp

theorem wanted_iff {tmps : Array Value} {n : Nat} (hn : tmps.size = n) {ops : Array Oper} {j d : Nat} {want : Bool} {o : Oper} (ho : o.guard = some (j, want)) (hd : (nth ops.toList j).bind (·.dst) = some d) :
    Region.wanted o (yielded ops tmps) = true ↔ tmps.getD d undef = .bool want := by
  rw [nth_eq, Array.getElem?_toList] at hd
  unfold Region.wanted yielded
  rw [ho]
  simp only [hd, Option.bind_some]
  rw [Array.getD_eq_getD_getElem?]
  cases hg : tmps[d]? with
  | none => simp [undef]
  | some v =>
    simp only [Option.getD_some]
    cases v <;> simp

/-- An operation of a region. -/
theorem wp_did {G : Gh C.gl} {w : World} {o : Oper} {a : Act} {v : V} {h' : List Ob} {next : Act → World → Prop} {Q : Exit → Act → World → Prop} (hd : Did G w ((execOp a.eval o).run C.P w) v h')
    (hn : ∀ val w' G', Rel G' w' v val → Mem G' w' h' → Subs G w G' w' → Ext G w G' w' → next (a.put o.dst val) w') : o.wp C.P a w next Q := by
  obtain ⟨val, w', G', hr, h1, h2, h3, h4⟩ := hd
  unfold Oper.wp
  rcases hr with hr | ⟨hr, rfl⟩
  · rw [hr]
    exact hn val w' G' h1 h2 h3 h4
  · rw [hr]
    exact hn undef w' G' h1 h2 h3 h4

theorem args_rels {G : Gh C.gl} {w : World} {f : Operand → V} {g : Operand → Value} (hr : ∀ x, Rel G w (f x) (g x)) (args : Array Operand) {cs : List V} {caps : Array Value} (hl : caps.size = cs.length) (hc : ∀ (k : Nat) (c : V) (v : Value), cs[k]? = some c → caps[k]? = some v → Rel G w c v) :
    Rels G w (args.toList.map f ++ cs) (args.map g ++ caps).toList := by
  refine ⟨by simp [hl], fun k u val hu hval => ?_⟩
  rw [Array.toList_append] at hval
  by_cases hlt : k < args.size
  · rw [List.getElem?_append_left (by simpa using hlt)] at hu
    rw [List.getElem?_append_left (by simpa using hlt)] at hval
    simp only [List.getElem?_map, Option.map_eq_some_iff, Array.getElem?_toList] at hu
    simp only [Array.toList_map, List.getElem?_map, Option.map_eq_some_iff, Array.getElem?_toList] at hval
    obtain ⟨x, h1, rfl⟩ := hu
    obtain ⟨y, h2, rfl⟩ := hval
    rw [h1] at h2
    injection h2 with h2
    subst h2
    exact hr x
  · rw [List.getElem?_append_right (by simp; omega)] at hu
    rw [List.getElem?_append_right (by simp; omega)] at hval
    simp only [List.length_map, Array.length_toList, Array.toList_map] at hu hval
    exact hc _ u val hu (by rwa [Array.getElem?_toList] at hval)

/-- An operation, told: a call too. -/
def OperOk (C : Cfg) (G : Gh C.gl) (w : World) (o : Oper) (a : Act) : Out → Prop
  | .no => True
  | .val v h' => Did G w ((execOp a.eval o).run C.P w) v h'
  | .chk c v h' => c = true → Did G w ((execOp a.eval o).run C.P w) v h'
  | .call _ _ q v h' => ∃ fid args, (execOp a.eval o).run C.P w = .ok (.enter fid args) w ∧ ∀ y, q = some y → Calls C.P fid args w fun e w' => ∃ val G', e = .returned val ∧ Mem G' w' (h' y) ∧ Rel G' w' (v y) val ∧ Subs G w G' w' ∧ Ext G w G' w'

theorem find_mem0 {α : Type} {k : Nat} {x : α} : ∀ {L : List (Nat × α)}, find k L = some x → (k, x) ∈ L
  | [], h => by simp [find] at h
  | (j, y) :: r, h => by
    simp only [find] at h
    cases hb : Nat.beq j k with
    | true =>
      rw [hb, cond_true] at h
      injection h with h
      subst h
      rw [Nat.eq_of_beq_eq_true hb]
      exact List.mem_cons_self ..
    | false =>
      rw [hb, cond_false] at h
      exact List.mem_cons_of_mem _ (find_mem0 h)
theorem evalCall_ok {T : List (Nat × Spec)} (hT : ∀ p, p ∈ T → Snd C p.1 p.2) {G : Gh C.gl} {w : World} {h : List Ob} (hm : Mem G w h) {env : Env} {a : Act} (he : EnvR G w env a.tmps) {gs : List (Nat × Bool)} (hg : Met a.tmps gs) (o : Oper) :
    OperOk C G w o a (evalCall C T o env h gs) := by
  have hr : ∀ x, Rel G w (ung gs (opnd env x)) (a.eval x) := fun x => ung_rel hg (opnd_rel he x)
  unfold evalCall
  split
  · rename_i f args ats hop
    split
    · rename_i fid cs hf
      have hfr := hr f
      rw [hf] at hfr
      generalize hfv : a.eval f = vf at hfr
      cases hfr with
      | fn _ _ caps hl hc =>
        have hargs := args_rels hr args hl hc
        have hcall := callV_ok (fid := fid) hm hargs T hT
        cases hmk : find fid C.mks with
        | some g =>
          obtain ⟨k1, k2⟩ := C.mkOk _ (find_mem0 hmk)
          refine ⟨fid, args.map a.eval ++ caps, ?_, fun y hy => ?_⟩
          · unfold execOp
            rw [hop]
            simp only [resolve, hfv, Deferred.ofValue, Sem.run_bind, Sem.run_pure, Result.andThen_ok, invoke, Array.empty_append, k1]
          · refine Calls.mono (by have := k2 (args.map a.eval ++ caps).toList w; rwa [Array.toArray_toList] at this) ?_
            rintro e w' ⟨rfl, rfl⟩
            rw [Array.toArray_toList]
            refine ⟨_, G, rfl, hm, .fn _ _ _ (by have := hargs.1; simp at this ⊢; omega) fun k c v hc hv => hargs.2 k c v hc (by rw [← Array.getElem?_toList] at hv; exact hv), .refl _ _, .refl _ _⟩
        | none =>
        dsimp only
        cases hcv : callV fid h (args.toList.map (fun x => ung gs (opnd env x)) ++ cs) T with
        | no => trivial
        | val v h' => rw [hcv] at hcall; exact hcall.elim
        | chk c v h' => rw [hcv] at hcall; exact hcall.elim
        | call W d q v h' =>
          rw [hcv] at hcall
          obtain ⟨k1, k2⟩ := hcall
          refine ⟨fid, args.map a.eval ++ caps, ?_, fun y hy => ?_⟩
          · unfold execOp
            rw [hop]
            simp only [resolve, hfv, Deferred.ofValue, Sem.run_bind, Sem.run_pure, Result.andThen_ok, invoke, Array.empty_append, k1]
          · have := k2 y hy
            unfold CallDid at this
            rwa [Array.toArray_toList] at this
    · trivial
  · have gen : ∀ {out : Out}, OutOk G w ((execOp a.eval o).run C.P w) out → OperOk C G w o a out := fun {out} hok => by
      cases out with
      | no => trivial
      | val v h' => exact hok
      | chk c v h' => exact hok
      | call W d q v h' => exact hok.elim
    split
    · rename_i r hrw
      exact gen (rwV_ok hm he hg o hrw)
    · exact gen (evalOp_ok (C := C) hm he hg o)

theorem rwV_same {op : Op} {env : Env} {h : List Ob} {gs : List (Nat × Bool)} {r : Out} (hc : calm op = true) (hl : ∀ t a, op = .load t a → inner t C.own2 = false) (hr : rwV C op env h gs = some r) : r.same h := by
  unfold rwV at hr
  split at hr
  · simp [calm] at hc
  · split at hr
    · split at hr
      · injection hr with hr; subst hr; rfl
      · injection hr with hr; subst hr; trivial
      · cases hr
    · cases hr
  · rename_i t a
    rw [hl t a rfl] at hr
    simp at hr
  · simp [calm] at hc
  · simp [calm] at hc
  · cases hr
def Out.stay (h : List Ob) : Out → Prop
  | .val _ h' => h' = h
  | .chk _ _ h' => h' = h
  | .call _ _ _ _ h' => ∀ y, h' y = h
  | .no => True
theorem same_of {out : Out} {h : List Ob} (hs : out.same h) : out.stay h := by
  cases out with
  | no => trivial
  | val v h' => exact hs
  | chk c v h' => exact hs
  | call W d q v h' => exact hs.elim
theorem light_row {v : V} (h : lightV v = true) (gs : List (Nat × Bool)) (id : Nat) : ung gs v ≠ .row id := by
  intro e
  unfold lightV at h
  split at h
  · cases e
  · cases e
  · cases e
  all_goals first
    | (unfold ung at e; dsimp only at e; split at e <;> cases e)
    | cases h
theorem light_fro {v : V} (h : lightV v = true) (gs : List (Nat × Bool)) (hh : List Ob) : fro1 hh (ung gs v) = hh := by
  have := light_row h gs
  generalize ung gs v = w at this
  cases w <;> first | rfl | exact absurd rfl (this _)
theorem slice_stay {t : TypeId} {x : Operand} {lo hi m : Option Operand} {env : Env} {h : List Ob} {gs : List (Nat × Bool)} (hl : lightV (opnd env x) = true) : (match rwV C (.slice t x lo hi m) env h gs with | some r => r | none => evalOp C (.slice t x lo hi m) env h gs).stay h := by
  have hr : rwV C (.slice t x lo hi m) env h gs = none := by
    have := light_row hl gs
    unfold rwV
    split <;> first | rfl | skip
    all_goals first
      | (rename_i heq; cases heq; done)
      | (rename_i heq; injection heq with h1 h2 h3 h4 h5; subst h2; split <;> first | rfl | (rename_i heq2 _ _; exact absurd heq2 (this _)))
  rw [hr]
  have hf := light_fro hl gs h
  cases m with
  | some m => exact trivial
  | none =>
    show (sliceV C h t (ung gs (opnd env x)) (lo.map fun x => ung gs (opnd env x)) (hi.map fun x => ung gs (opnd env x))).stay h
    generalize ung gs (opnd env x) = v at hf
    unfold sliceV
    split
    · split
      · rfl
      · trivial
    · split
      · split
        · split
          · split
            · exact hf
            · trivial
          · trivial
        · trivial
      · trivial
theorem calmOper_stay {T : List (Nat × Spec)} {o : Oper} {env : Env} {h : List Ob} {gs : List (Nat × Bool)} (hc : calmOper C T o env = true) : (evalCall C T o env h gs).stay h := by
  unfold calmOper at hc
  unfold evalCall
  split at hc
  · rename_i t x lo hi m hop
    rw [hop]
    exact slice_stay hc
  · rename_i f args ats hop
    rw [hop]
    dsimp only
    split at hc
    · rename_i fid cs hf
      rw [hf, show ung gs (.fn (.func fid) cs) = .fn (.func fid) cs from rfl]
      dsimp only
      have := calmCall (h := h) (vs := args.toList.map (fun x => ung gs (opnd env x)) ++ cs) T hc
      cases hmk : find fid C.mks with
      | some g => exact fun y => rfl
      | none =>
      dsimp only
      cases hcv : callV fid h (args.toList.map (fun x => ung gs (opnd env x)) ++ cs) T with
      | call W d q v h' => rw [hcv] at this; exact this
      | no => trivial
      | val v h' => exact absurd hcv (callV_form T).1
      | chk c v h' => exact absurd hcv (callV_form T).2
    · cases hc
  · rename_i t ad hop
    rw [hop]
    have hi : inner t C.own2 = false := by simpa using hc
    have h1 : calm (.load t ad) = true := rfl
    show (match rwV C (.load t ad) env h gs with | some r => r | none => evalOp C (.load t ad) env h gs).stay h
    cases hrw : rwV C (.load t ad) env h gs with
    | some r => exact same_of (rwV_same h1 (fun t' a' e => by cases e; exact hi) hrw)
    | none => exact same_of (calm_same (C := C) (h := h) _ env gs h1)
  · rename_i op hnsl hne hnl
    split
    · rename_i f args ats hop
      exact absurd hop (hne f args ats)
    · cases hrw : rwV C o.op env h gs with
      | some r => exact same_of (rwV_same hc (fun t' a' e => absurd e (hnl t' a')) hrw)
      | none => exact same_of (calm_same (C := C) (h := h) o.op env gs hc)
theorem calmOper_same {T : List (Nat × Spec)} {o : Oper} {env : Env} {h : List Ob} {gs : List (Nat × Bool)} (hc : calmOper C T o env = true) : match evalCall C T o env h gs with
    | .val _ h' => h' = h
    | .chk _ _ h' => h' = h
    | .call _ _ _ _ h' => ∀ y, h' y = h
    | .no => True := by
  have := calmOper_stay (h := h) (gs := gs) hc
  cases hv : evalCall C T o env h gs with
  | no => trivial
  | val v h' => rw [hv] at this; exact this
  | chk c v h' => rw [hv] at this; exact this
  | call W d q v h' => rw [hv] at this; exact this

theorem look_unG (env : Env) (gs : List Nat) (t : Nat) : look t (unG env gs) = look t env ∨ look t (unG env gs) = noG (look t env) := by
  have key : ∀ (l : Env), look t (l.map fun p => (p.1, noG p.2)) = noG (look t l) := by
    intro l
    induction l with
    | nil => rfl
    | cons p r ih =>
      obtain ⟨d, v⟩ := p
      simp only [List.map_cons]
      rw [look_cons, look_cons, ih]
      split <;> rfl
  cases gs with
  | nil => exact .inl rfl
  | cons d r => exact .inr (key env)

theorem env_end {G : Gh C.gl} {w : World} {env : Env} {tmps : Array Value} {gs : List Nat} (he : EnvR G w env tmps) (hg : GsOk env gs) (t : Nat) : Rel G w (look t (unG env gs)) (tmps.getD t undef) := by
  have h1 := he t
  cases hl : look t env with
  | g d want u =>
    have hmem := hg t d want u hl
    cases gs with
    | nil => cases hmem
    | cons d' r =>
      have : look t (unG env (d' :: r)) = noG (look t env) := by
        rcases look_unG env (d' :: r) t with k | k
        · have key : ∀ (l : Env), look t (l.map fun p => (p.1, noG p.2)) = noG (look t l) := by
            intro l
            induction l with
            | nil => rfl
            | cons p r ih =>
              obtain ⟨d, v⟩ := p
              simp only [List.map_cons]
              rw [look_cons, look_cons, ih]
              split <;> rfl
          exact key env
        · exact k
      rw [this, hl]
      exact .u _
  | _ =>
    rw [hl] at h1
    rcases look_unG env gs t with k | k
    · rw [k, hl]; exact h1
    · rw [k, hl]; exact h1

theorem evalOps_ok {T : List (Nat × Spec)} {D : List Deferred} (hT : ∀ p, p ∈ T → Snd C p.1 p.2) {n : Nat} {R : Type} (ops : Array Oper) {Q : Exit → Act → World → Prop} {K : St → Option R} {r : R} : ∀ (l : List Oper) (env : Env) (h : List Ob) (gs : List Nat),
    evalOps C n T ops.toList l env h gs K = some r → ∀ (G : Gh C.gl) (a : Act) (w : World), a.defers = D → a.tmps.size = n → EnvR G w env a.tmps → GsOk env gs → Mem G w h →
      (∀ s' G' a' w', Abs D n G' s' a' w' → Ext G w G' w' → K s' = some r → (∀ d, d ∈ gs → a'.tmps.getD d undef = a.tmps.getD d undef) → Q .normal a' w') → wpList C.P ops Q l a w
  | [], env, h, gs, hev, G, a, w, hd, hn, he, hg, hm, hQ => by
    exact hQ _ G a w ⟨hd, hn, env_end he hg, hm⟩ (.refl _ _) hev (fun _ _ => rfl)
  | o :: l, env, h, gs, hev, G, a, w, hd, hn, he, hg, hm, hQ => by
    have ih := evalOps_ok (D := D) hT (n := n) (K := K) (r := r) (Q := Q) ops l
    -- going on behind a value
    have goOn : ∀ {v : V} {h' : List Ob} {env0 : Env} {gs0 : List Nat}, EnvR G w env0 a.tmps → GsOk env0 gs0 → (∀ d, d ∈ gs → d ∈ gs0) → (∀ env', putE n env0 gs0 o.dst v = some env' → evalOps C n T ops.toList l env' h' gs0 K = some r) → (∃ env', putE n env0 gs0 o.dst v = some env') →
        ∀ val w' G', (∀ tmps', (∀ d, d ∈ gs0 → tmps'.getD d undef = a.tmps.getD d undef) → RelE G' w' tmps' v val) → (∀ d0 want u, v = .g d0 want u → d0 ∈ gs0) → Mem G' w' h' → Subs G w G' w' → Ext G w G' w' → wpList C.P ops Q l (a.put o.dst val) w' := by
      rintro v h' env0 gs0 he0 hg0 hsub hK ⟨env', hp⟩ val w' G' hv hvg hm' hs' hx'
      obtain ⟨k1, k2, k3, k4⟩ := put_env hn he0 hs' hg0 hp hv hvg
      exact ih env' h' gs0 (hK env' hp) G' _ w' (k3.trans hd) k2 k1 k4 hm' fun s' G'' a' w'' q1 q2 q3 q4 => hQ s' G'' a' w'' q1 (hx'.trans q2) q3 fun d hd' => (q4 d (hsub d hd')).trans (put_keep hn hp d (hsub d hd'))
    have relE : ∀ {G' : Gh C.gl} {w' : World} {v : V} {val : Value}, Rel G' w' v val → ∀ (gs0 : List Nat) (tmps' : Array Value), (∀ d, d ∈ gs0 → tmps'.getD d undef = a.tmps.getD d undef) → RelE G' w' tmps' v val := fun hr _ _ _ => RelE.of hr
    unfold wpList
    unfold evalOps at hev
    dsimp only at hev
    split at hev
    · -- no guard
      rename_i hgd
      rw [if_pos (by simp [Region.wanted, hgd])]
      refine .inl ?_
      have hok := evalCall_ok hT hm he (gs := []) (fun p hp => by cases hp) o
      split at hev
      · cases hev
      · rename_i v h' hout
        rw [hout] at hok
        split at hev
        · rename_i env' hp
          refine wp_did hok fun val w' G' k1 k2 k3 k4 => goOn he hg (fun _ k => k) (fun e' he' => by rw [hp] at he'; injection he' with he'; subst he'; exact hev) ⟨env', hp⟩ val w' G' (fun t' ht => relE k1 gs t' ht) (fun d0 want u e => absurd e (rel_not_g k1 _ _ _)) k2 k3 k4
        · cases hev
      · rename_i c v h' hout
        rw [hout] at hok
        cases c with
        | false => rw [cond_false] at hev; cases hev
        | true =>
          rw [cond_true] at hev
          split at hev
          · rename_i env' hp
            refine wp_did (hok rfl) fun val w' G' k1 k2 k3 k4 => goOn he hg (fun _ k => k) (fun e' he' => by rw [hp] at he'; injection he' with he'; subst he'; exact hev) ⟨env', hp⟩ val w' G' (fun t' ht => relE k1 gs t' ht) (fun d0 want u e => absurd e (rel_not_g k1 _ _ _)) k2 k3 k4
          · cases hev
      · rename_i W d q v h' hout
        rw [hout] at hok
        obtain ⟨fid, args, hrun, hcalls⟩ := hok
        obtain ⟨y, hy, hev⟩ := Option.bind_eq_some_iff.1 hev
        split at hev
        · rename_i env' hp
          unfold Oper.wp
          rw [hrun, Oper.upon_enter]
          refine Calls.mono (hcalls y hy) ?_
          rintro e w' ⟨val, G', rfl, k1, k2, k3, k4⟩
          exact goOn he hg (fun _ k => k) (fun e' he' => by rw [hp] at he'; injection he' with he'; subst he'; exact hev) ⟨env', hp⟩ val w' G' (fun t' ht => relE k2 gs t' ht) (fun d0 want u e => absurd e (rel_not_g k2 _ _ _)) k1 k3 k4
        · cases hev
    · -- a guard
      rename_i j want hgd
      split at hev
      · rename_i d hdst
        split at hev
        · rename_i x hx
          have hwant := wanted_iff hn hgd hdst
          have hxw := condG_ok he 9 d want hx
          have hact : a.tmps.getD d undef = .bool want → Met a.tmps (actG env 9 d want) := actG_met he 9 d want
          split at hev
          · -- calm
            rename_i hcalm
            have hsame := calmOper_same (C := C) (h := h) (gs := actG env 9 d want) hcalm
            -- the slot, told by the guard
            have gRel : ∀ {G' : Gh C.gl} {w' : World} {v : V} {val : Value}, a.tmps.getD d undef = .bool want → Rel G' w' v val → ∀ tmps', (∀ d', d' ∈ d :: gs → tmps'.getD d' undef = a.tmps.getD d' undef) → RelE G' w' tmps' (.g d want v) val := by
              intro G' w' v val hw hr tmps' ht
              exact ⟨fun _ => hr, fun hne => absurd ((ht d (List.mem_cons_self ..)).trans hw) hne⟩
            have gNo : ∀ {v : V}, a.tmps.getD d undef ≠ .bool want → ∀ tmps', (∀ d', d' ∈ d :: gs → tmps'.getD d' undef = a.tmps.getD d' undef) → RelE G w tmps' (.g d want v) undef := by
              intro v hw tmps' ht
              exact ⟨fun he' => absurd ((ht d (List.mem_cons_self ..)).symm.trans he') hw, fun _ => rfl⟩
            have isg : ∀ {v : V} (d0 : Nat) (want' : Bool) (u : V), V.g d want v = .g d0 want' u → d0 ∈ d :: gs := by
              intro v d0 want' u e
              injection e with e1
              rw [← e1]
              exact List.mem_cons_self ..
            have skip : ∀ {v : V} {env' : Env}, putE n env (d :: gs) o.dst (.g d want v) = some env' → evalOps C n T ops.toList l env' h (d :: gs) K = some r → a.tmps.getD d undef ≠ .bool want → wpList C.P ops Q l (a.put o.dst undef) w := by
              intro v env' hp hev' hw
              exact goOn he (gs_more hg) (fun _ k => List.mem_cons_of_mem _ k) (fun e' he' => by rw [hp] at he'; injection he' with he'; subst he'; exact hev') ⟨env', hp⟩ undef w G (gNo hw) isg hm (.refl _ _) (.refl _ _)
            split at hev
            · cases x with
              | true => rw [cond_true] at hev; cases hev
              | false =>
                rw [cond_false] at hev
                split at hev
                · rename_i env' hp
                  have hw : a.tmps.getD d undef ≠ .bool want := fun e => Bool.false_ne_true (hxw.2 e)
                  rw [if_neg (fun e => hw (hwant.1 e))]
                  exact goOn he hg (fun _ k => k) (fun e' he' => by rw [hp] at he'; injection he' with he'; subst he'; exact hev) ⟨env', hp⟩ undef w G (fun _ _ => RelE.of (.u _)) (fun d0 want' u e => by cases e) hm (.refl _ _) (.refl _ _)
                · cases hev
            · rename_i v h' hout
              rw [hout] at hsame
              dsimp only at hsame
              subst hsame
              split at hev
              · rename_i env' hp
                by_cases hw : a.tmps.getD d undef = .bool want
                · rw [if_pos (hwant.2 hw)]
                  have hok := evalCall_ok hT hm he (hact hw) o
                  rw [hout] at hok
                  exact .inl (wp_did hok fun val w' G' k1 k2 k3 k4 => goOn he (gs_more hg) (fun _ k => List.mem_cons_of_mem _ k) (fun e' he' => by rw [hp] at he'; injection he' with he'; subst he'; exact hev) ⟨env', hp⟩ val w' G' (gRel hw k1) isg k2 k3 k4)
                · rw [if_neg (fun e => hw (hwant.1 e))]
                  exact skip hp hev hw
              · cases hev
            · rename_i c v h' hout
              rw [hout] at hsame
              dsimp only at hsame
              subst hsame
              cases hcx : (bif x then c else true) with
              | false => rw [hcx, cond_false] at hev; cases hev
              | true =>
                rw [hcx, cond_true] at hev
                split at hev
                · rename_i env' hp
                  by_cases hw : a.tmps.getD d undef = .bool want
                  · rw [if_pos (hwant.2 hw)]
                    have hok := evalCall_ok hT hm he (hact hw) o
                    rw [hout] at hok
                    have hc : c = true := by rw [hxw.2 hw, cond_true] at hcx; exact hcx
                    exact .inl (wp_did (hok hc) fun val w' G' k1 k2 k3 k4 => goOn he (gs_more hg) (fun _ k => List.mem_cons_of_mem _ k) (fun e' he' => by rw [hp] at he'; injection he' with he'; subst he'; exact hev) ⟨env', hp⟩ val w' G' (gRel hw k1) isg k2 k3 k4)
                  · rw [if_neg (fun e => hw (hwant.1 e))]
                    exact skip hp hev hw
                · cases hev
            · rename_i W y0 q v h' hout
              rw [hout] at hsame
              dsimp only at hsame
              obtain ⟨y, hy, hev⟩ := Option.bind_eq_some_iff.1 hev
              split at hev
              · rename_i env' hp
                by_cases hw : a.tmps.getD d undef = .bool want
                · rw [if_pos (hwant.2 hw)]
                  have hok := evalCall_ok hT hm he (hact hw) o
                  rw [hout] at hok
                  obtain ⟨fid, args, hrun, hcalls⟩ := hok
                  rw [hxw.2 hw, cond_true] at hy
                  refine .inl ?_
                  unfold Oper.wp
                  rw [hrun, Oper.upon_enter]
                  refine Calls.mono (hcalls y hy) ?_
                  rintro e w' ⟨val, G', rfl, k1, k2, k3, k4⟩
                  rw [hsame y] at k1
                  exact goOn he (gs_more hg) (fun _ k => List.mem_cons_of_mem _ k) (fun e' he' => by rw [hp] at he'; injection he' with he'; subst he'; exact hev) ⟨env', hp⟩ val w' G' (gRel hw k2) isg k1 k3 k4
                · rw [if_neg (fun e => hw (hwant.1 e))]
                  exact skip hp hev hw
              · cases hev
          · -- not calm: both ways
            split at hev
            · rename_i b0 hl
              have hld : RelE G w a.tmps (look d env) (a.tmps.getD d undef) := he d
              rw [hl] at hld
              have htd : a.tmps.getD d undef = .bool b0 := by
                have hld : Rel G w (.b b0) (a.tmps.getD d undef) := hld
                generalize a.tmps.getD d undef = z at hld
                cases hld
                rfl
              cases x with
              | true =>
                have hw := hxw.1 rfl
                rw [cond_true] at hev
                rw [if_pos (hwant.2 hw)]
                split at hev
                · rename_i env1 hp1
                  have henv1 : env1 = (d, .b want) :: env := by
                    rcases putE_some hp1 with ⟨e, _⟩ | ⟨d', e, _, _, h4⟩
                    · cases e
                    · injection e with e; subst e; exact h4
                  subst henv1
                  have he1 : EnvR G w ((d, .b want) :: env) a.tmps := env_told he (by rw [hw]; exact RelE.of (.b _))
                  have hg1 : GsOk ((d, .b want) :: env) gs := gs_put hg (fun d0 want' u e => by cases e)
                  have hok := evalCall_ok hT hm he1 (gs := actG env 9 d want) (hact hw) o
                  refine .inl ?_
                  split at hev
                  · cases hev
                  · rename_i v h' hout
                    rw [hout] at hok
                    split at hev
                    · rename_i env' hp
                      exact wp_did hok fun val w' G' k1 k2 k3 k4 => goOn he1 hg1 (fun _ k => k) (fun e' he' => by rw [hp] at he'; injection he' with he'; subst he'; exact hev) ⟨env', hp⟩ val w' G' (fun t' ht => relE k1 gs t' ht) (fun d0 want u e => absurd e (rel_not_g k1 _ _ _)) k2 k3 k4
                    · cases hev
                  · rename_i c v h' hout
                    rw [hout] at hok
                    cases c with
                    | false => rw [cond_false] at hev; cases hev
                    | true =>
                      rw [cond_true] at hev
                      split at hev
                      · rename_i env' hp
                        exact wp_did (hok rfl) fun val w' G' k1 k2 k3 k4 => goOn he1 hg1 (fun _ k => k) (fun e' he' => by rw [hp] at he'; injection he' with he'; subst he'; exact hev) ⟨env', hp⟩ val w' G' (fun t' ht => relE k1 gs t' ht) (fun d0 want u e => absurd e (rel_not_g k1 _ _ _)) k2 k3 k4
                      · cases hev
                  · rename_i W y0 q v h' hout
                    rw [hout] at hok
                    obtain ⟨fid, args, hrun, hcalls⟩ := hok
                    obtain ⟨y, hy, hev⟩ := Option.bind_eq_some_iff.1 hev
                    split at hev
                    · rename_i env' hp
                      unfold Oper.wp
                      rw [hrun, Oper.upon_enter]
                      refine Calls.mono (hcalls y hy) ?_
                      rintro e w' ⟨val, G', rfl, k1, k2, k3, k4⟩
                      exact goOn he1 hg1 (fun _ k => k) (fun e' he' => by rw [hp] at he'; injection he' with he'; subst he'; exact hev) ⟨env', hp⟩ val w' G' (fun t' ht => relE k2 gs t' ht) (fun d0 want u e => absurd e (rel_not_g k2 _ _ _)) k1 k3 k4
                    · cases hev
                · cases hev
              | false =>
                have hw : a.tmps.getD d undef ≠ .bool want := fun e => by have := hxw.2 e; cases this
                rw [cond_false] at hev
                rw [if_neg (fun e => hw (hwant.1 e))]
                split at hev
                · rename_i env1 hp1
                  have henv1 : env1 = (d, .b (!want)) :: env := by
                    rcases putE_some hp1 with ⟨e, _⟩ | ⟨d', e, _, _, h4⟩
                    · cases e
                    · injection e with e; subst e; exact h4
                  subst henv1
                  have hb0 : b0 = !want := by
                    rw [htd] at hw
                    cases b0 <;> cases want <;> first | rfl | exact absurd rfl hw
                  have he1 : EnvR G w ((d, .b (!want)) :: env) a.tmps := env_told he (by rw [htd, hb0]; exact RelE.of (.b _))
                  have hg1 : GsOk ((d, .b (!want)) :: env) gs := gs_put hg (fun d0 want' u e => by cases e)
                  split at hev
                  · rename_i env' hp
                    exact goOn he1 hg1 (fun _ k => k) (fun e' he' => by rw [hp] at he'; injection he' with he'; subst he'; exact hev) ⟨env', hp⟩ undef w G (fun t' ht => RelE.of (.u _)) (fun d0 want u e => by cases e) hm (.refl _ _) (.refl _ _)
                  · cases hev
                · cases hev
            · cases hev
        · cases hev
      · cases hev
end
end Go.Pv
