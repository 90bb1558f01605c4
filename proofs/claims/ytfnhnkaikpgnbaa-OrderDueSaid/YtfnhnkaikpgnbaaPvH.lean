/- The engine, part 12f: regions without an order: joined. -/
import Derived.Test.YtfnhnkaikpgnbaaPvG
namespace Go.Pv
open Go
set_option linter.all false
set_option linter.constructorNameAsVariable false
set_option linter.unusedSectionVars false
set_option linter.unusedVariables false
set_option linter.unusedSimpArgs false

theorem look_restr (env : Env) : ∀ (ts : List Nat) (t : Nat), (t ∈ ts → look t (restr env ts) = look t env) ∧ (t ∉ ts → look t (restr env ts) = .u)
  | [], t => ⟨fun h => (by cases h), fun _ => rfl⟩
  | u :: r, t => by
    have ih := look_restr env r t
    show (_ → look t ((u, look u env) :: restr env r) = _) ∧ (_ → look t ((u, look u env) :: restr env r) = _)
    rw [look_cons]
    by_cases h : u = t
    · subst h
      rw [if_pos rfl]
      exact ⟨fun _ => rfl, fun hn => absurd (List.mem_cons_self ..) hn⟩
    · rw [if_neg h]
      refine ⟨fun hm => ih.1 ?_, fun hm => ih.2 fun k => hm (List.mem_cons_of_mem _ k)⟩
      rcases List.mem_cons.1 hm with e | e
      · exact absurd e.symm h
      · exact e

theorem dstNew_spec {n : Nat} {d : Option Nat} {us : List Nat} (h : dstNew n d us = true) : ∀ t, d = some t → t < n ∧ t ∉ us := by
  intro t hd
  subst hd
  simp only [dstNew, Bool.and_eq_true] at h
  refine ⟨?_, fun hm => ?_⟩
  · have h0 := h.1
    unfold Nat.blt at h0
    exact Nat.le_of_ble_eq_true h0
  · have := List.all_eq_true.1 h.2 t hm
    simp at this

theorem blt_spec {a b : Nat} (h : Nat.blt a b = true) : a < b := by
  unfold Nat.blt at h
  exact Nat.le_of_ble_eq_true h

theorem look_putD {env : Env} {d : Option Nat} {v : V} {t : Nat} (h : d ≠ some t) : look t (putD env d v) = look t env := by
  cases d with
  | none => rfl
  | some e =>
    show look t ((e, v) :: env) = _
    rw [look_cons, if_neg (fun k => h (by rw [k]))]
theorem look_putD_self {env : Env} {t : Nat} {v : V} : look t (putD env (some t) v) = v := by
  show look t ((t, v) :: env) = _
  rw [look_cons, if_pos rfl]
section
variable {C : Cfg} {T : List (Nat × Spec)} {n : Nat} {all : List Oper} {E0 : Env} {A : List Nat} {R : Type} {K : St → Option R} {res : R}

def Fx (C : Cfg) (T : List (Nat × Spec)) (n : Nat) (all : List Oper) (E0 : Env) (A : List Nat) {R : Type} (K : St → Option R) (res : R) (i : Nat) (env : Env) (h base : List Ob) (used : List Nat) : Prop :=
  ∃ (E : Env) (hs hb : Nat → List Ob), K { env := stripG E, h := hs (cnt C all all.length) } = some res ∧ (∀ t, t ∈ used → look t E = look t env) ∧ (∀ t, (∀ j o, i ≤ j → nth all j = some o → o.dst ≠ some t) → look t E = look t env) ∧ (∀ j o d, i ≤ j → nth all j = some o → o.dst = some d → d ∉ used) ∧ hs (cnt C all i) = h ∧ hb (cnt C all i) = base ∧
    (∀ c, cnt C all i ≤ c → c ≤ cnt C all all.length → Pre (hb c) (hs c)) ∧
    ∀ j o, i ≤ j → nth all j = some o → ∃ Aj, SF (C := C) (T := T) (n := n) all E0 A E (hs (cnt C all j)) (hs (cnt C all j + 1)) (hb (cnt C all j)) (hb (cnt C all j + 1)) j o Aj

structure Chk (all : List Oper) (n : Nat) (E0 : Env) (A : List Nat) (i : Nat) (o : Oper) (Ai : Nat) (env : Env) (used : List Nat) : Prop where
  at_ : nth A i = some Ai
  lt : Ai < 2 ^ i
  dlt : ∀ j, j ∈ dirs o → j < i
  ts : okT A Ai i all env o = true
  dn : ∀ d, o.dst = some d → d < n ∧ d ∉ useT Ai all (slotsAt all env o) ++ used
  e0 : ∀ t, (∀ j o, j < i → nth all j = some o → o.dst ≠ some t) → look t env = look t E0
  ls : ∀ j Aj, j < i → nth A j = some Aj → Aj < 2 ^ j

theorem Chk.facts {i : Nat} {o : Oper} {Ai : Nat} {env : Env} {used : List Nat} (hc : Chk all n E0 A i o Ai env used) {E : Env} {dv : V} (hE : ∀ t, t ∈ o.dst.toList ++ (useT Ai all (slotsAt all env o) ++ used) → look t E = look t (putD env o.dst dv)) :
    EnvI all E0 A i E Ai (restr env (slotsAt all env o)) ∧ lookD E o.dst dv ∧ ∀ t, t ∈ used → look t E = look t env := by
  refine ⟨fun t => ?_, fun t ht => ?_, fun t ht => ?_⟩
  · by_cases hm : t ∈ slotsAt all env o
    · right
      have hts := hc.ts
      unfold okT at hts
      rw [Bool.and_eq_true] at hts
      have hor : ahead Ai t 0 all = true ∨ oldB A i t 0 all = true := by
        unfold slotsAt at hm
        rcases List.mem_append.1 hm with q | q
        · have := List.all_eq_true.1 hts.1 t q
          rw [Bool.or_eq_true] at this
          exact this
        · exact .inl (List.all_eq_true.1 hts.2 t q)
      cases ha : ahead Ai t 0 all with
      | true =>
        left
        have hu : t ∈ useT Ai all (slotsAt all env o) := by unfold useT; exact List.mem_filter.2 ⟨hm, ha⟩
        refine ⟨?_, rfl⟩
        rw [(look_restr env _ t).1 hm, hE t (by simp [hu]), look_putD]
        intro e
        exact (hc.dn t e).2 (by simp [hu])
      | false =>
        right
        have ho : oldB A i t 0 all = true := by
          rcases hor with q | q
          · rw [ha] at q; cases q
          · exact q
        refine ⟨?_, ho⟩
        rw [(look_restr env _ t).1 hm]
        refine hc.e0 t fun j oj hj hoj hd => ?_
        obtain ⟨q1, q2⟩ := old_spec all 0 ho j oj hoj hd
        rw [Nat.zero_add] at q1 q2
        cases hA : nth A j with
        | none => rw [hA] at q2; simp at q2
        | some Aj =>
          rw [hA] at q2
          have := bits_lt (hc.ls j Aj hj hA) q2
          omega
    · exact .inl ((look_restr env _ t).2 hm)
  · rw [hE t (by simp [ht]), ht, look_putD_self]
  · rw [hE t (by simp [ht]), look_putD]
    intro e
    exact (hc.dn t e).2 (by simp [ht])

theorem Chk.gd {i : Nat} {o : Oper} {Ai : Nat} {env : Env} {used : List Nat} (hc : Chk all n E0 A i o Ai env used) : GdAhead all Ai o := by
  intro j want hg d hd
  have hts := hc.ts
  unfold okT at hts
  rw [Bool.and_eq_true] at hts
  refine List.all_eq_true.1 hts.2 d ?_
  unfold gSlots
  rw [hg]
  dsimp only
  rw [hd]
  exact List.mem_cons_self ..

theorem fx_same {i : Nat} {o : Oper} {Ai : Nat} {env : Env} {h base : List Ob} {used : List Nat} (ho : nth all i = some o) (hc : Chk all n E0 A i o Ai env used) (hch : isCh C o = false) {dv : V}
    (hf : kind C o.op = .free → GCore C T all o (restr env (slotsAt all env o)) dv (fun _ => True) (fun h h' => h' = h)) (hr : kind C o.op = .read → GCore C T all o (restr env (slotsAt all env o)) dv (fun h => Pre base h) (fun h h' => h' = h))
    (hfx : Fx C T n all E0 A K res (i + 1) (putD env o.dst dv) h base (o.dst.toList ++ (useT Ai all (slotsAt all env o) ++ used))) : Fx C T n all E0 A K res i env h base used := by
  obtain ⟨E, hs, hb, k2, k3, k8, ku, k4, k5, k6, k7⟩ := hfx
  have ku' : ∀ j o d, i ≤ j → nth all j = some o → o.dst = some d → d ∉ used := fun j o' d hj hoj hd hm => by
    by_cases he : j = i
    · subst he
      rw [ho] at hoj
      injection hoj with hoj
      subst hoj
      exact (hc.dn d hd).2 (by simp [hm])
    · exact ku j o' d (by omega) hoj hd (by simp [hm])
  have k9 : ∀ t, (∀ j o, i ≤ j → nth all j = some o → o.dst ≠ some t) → look t E = look t env := fun t ht => (k8 t fun j o' hj => ht j o' (by omega)).trans (look_putD (ht i o (Nat.le_refl _) ho))
  rw [cnt_not ho hch] at k4 k5 k6
  obtain ⟨e1, e2, e3⟩ := hc.facts k3
  refine ⟨E, hs, hb, k2, e3, k9, ku', k4, k5, k6, fun j oj hj hoj => ?_⟩
  by_cases he : j = i
  · subst he
    rw [ho] at hoj
    injection hoj with hoj
    subst hoj
    rw [k4, k5]
    exact ⟨Ai, hc.at_, hc.lt, hc.dlt, fun d hd => (hc.dn d hd).1, fun hk => ⟨hc.gd, _, dv, e1, e2, hf hk⟩, fun hk => ⟨hc.gd, _, dv, e1, e2, hr hk⟩, fun hk => by rw [hch] at hk; cases hk⟩
  · exact k7 j oj (by omega) hoj

theorem fx_chain {i : Nat} {o : Oper} {Ai : Nat} {env : Env} {h base h' base' : List Ob} {used : List Nat} (ho : nth all i = some o) (hc : Chk all n E0 A i o Ai env used) (hch : isCh C o = true) {dv : V}
    (hcore : GCore C T all o (restr env (slotsAt all env o)) dv (fun x => x = h) (fun _ x => x = h'))
    (hprev : cnt C all i = 0 ∨ ∃ p op, nth all p = some op ∧ isCh C op = true ∧ cnt C all p + 1 = cnt C all i ∧ Nat.testBit Ai p = true)
    (hbar : barB C A i 0 all = true ∨ base' = base) (hpre : Pre base h)
    (hfx : Fx C T n all E0 A K res (i + 1) (putD env o.dst dv) h' base' (o.dst.toList ++ (useT Ai all (slotsAt all env o) ++ used))) : Fx C T n all E0 A K res i env h base used := by
  obtain ⟨E, hs, hb, k2, k3, k8, ku, k4, k5, k6, k7⟩ := hfx
  have ku' : ∀ j o d, i ≤ j → nth all j = some o → o.dst = some d → d ∉ used := fun j o' d hj hoj hd hm => by
    by_cases he : j = i
    · subst he
      rw [ho] at hoj
      injection hoj with hoj
      subst hoj
      exact (hc.dn d hd).2 (by simp [hm])
    · exact ku j o' d (by omega) hoj hd (by simp [hm])
  have k9 : ∀ t, (∀ j o, i ≤ j → nth all j = some o → o.dst ≠ some t) → look t E = look t env := fun t ht => (k8 t fun j o' hj => ht j o' (by omega)).trans (look_putD (ht i o (Nat.le_refl _) ho))
  rw [cnt_ch ho hch] at k4 k5 k6
  obtain ⟨e1, e2, e3⟩ := hc.facts k3
  have hlt : cnt C all i < cnt C all all.length := cnt_lt ho hch (nth_lt ho)
  refine ⟨E, fun c => if c ≤ cnt C all i then h else hs c, fun c => if c ≤ cnt C all i then base else hb c, ?_, e3, k9, ku', by simp, by simp, fun c c1 c2 => ?_, fun j oj hj hoj => ?_⟩
  · dsimp only; rw [if_neg (by omega)]; exact k2
  · dsimp only
    by_cases he : c ≤ cnt C all i
    · rw [if_pos he, if_pos he]; exact hpre
    · rw [if_neg he, if_neg he]; exact k6 c (by omega) c2
  · by_cases he : j = i
    · subst he
      rw [ho] at hoj
      injection hoj with hoj
      subst hoj
      dsimp only
      rw [if_pos (Nat.le_refl _), if_neg (by omega), if_pos (Nat.le_refl _), if_neg (by omega), k4, k5]
      exact ⟨Ai, hc.at_, hc.lt, hc.dlt, fun d hd => (hc.dn d hd).1, fun hk => by simp [isCh, hk] at hch, fun hk => by simp [isCh, hk] at hch, fun _ => ⟨⟨hc.gd, _, dv, e1, e2, hcore⟩, hprev, hbar⟩⟩
    · have hij : i < j := by omega
      have := cnt_mono (C := C) (all := all) (i := i + 1) (j := j) hij
      rw [cnt_ch ho hch] at this
      dsimp only
      rw [if_neg (by omega), if_neg (by omega), if_neg (by omega), if_neg (by omega)]
      exact k7 j oj hij hoj

theorem putD_congr {env env' : Env} (he : ∀ t, look t env' = look t env) (d : Option Nat) (v : V) (t : Nat) : look t (putD env' d v) = look t (putD env d v) := by
  cases d with
  | none => exact he t
  | some d =>
    show look t ((d, v) :: env') = look t ((d, v) :: env)
    rw [look_cons, look_cons, he t]
theorem Fx.congr {i : Nat} {env env' : Env} {h base : List Ob} {used : List Nat} (he : ∀ t, look t env' = look t env) (hfx : Fx C T n all E0 A K res i env' h base used) : Fx C T n all E0 A K res i env h base used := by
  obtain ⟨E, hs, hb, k2, k3, k8, k4⟩ := hfx
  exact ⟨E, hs, hb, k2, fun t ht => (k3 t ht).trans (he t), fun t ht => (k8 t ht).trans (he t), k4⟩
/-- A guard that is met, or not, is told. -/
theorem told_env {env : Env} {ts : List Nat} {d : Nat} {b0 want x : Bool} (hb0 : look d (restr env ts) = .b b0) (hx : condG (restr env ts) 9 d want = some x) (t : Nat) : look t ((d, V.b (match x with | true => want | false => !want)) :: env) = look t env := by
  have h1 : look d env = .b b0 := by
    by_cases hm : d ∈ ts
    · rw [← (look_restr env ts d).1 hm]; exact hb0
    · rw [(look_restr env ts d).2 hm] at hb0; cases hb0
  have h2 : b0 = (match x with | true => want | false => !want) := by
    unfold condG at hx
    rw [hb0] at hx
    injection hx with hx
    cases want <;> cases x <;> cases b0 <;> first | rfl | cases hx
  rw [look_cons]
  by_cases he : d = t
  · subst he
    rw [if_pos rfl, h1, h2]
  · rw [if_neg he]

def PrevOk (C : Cfg) (all : List Oper) (i : Nat) : Option Nat → Prop
  | some p => ∃ op, nth all p = some op ∧ isCh C op = true ∧ cnt C all p + 1 = cnt C all i
  | none => cnt C all i = 0

theorem draw_facts : ∀ (r pre : List Oper) (env : Env) (h base : List Ob) (used : List Nat) (prev : Option Nat), all = pre ++ r → drawOps C n T A all pre.length r env h base used prev K = some res → Pre base h →
    PrevOk C all pre.length prev → (∀ t, (∀ j o, j < pre.length → nth all j = some o → o.dst ≠ some t) → look t env = look t E0) → (∀ j Aj, j < pre.length → nth A j = some Aj → Aj < 2 ^ j) → Fx C T n all E0 A K res pre.length env h base used
  | [], pre, env, h, base, used, prev, hall, hev, hpre, hprev, he0, hls => by
    have hl : pre.length = all.length := by rw [hall]; simp
    refine ⟨env, fun _ => h, fun _ => base, hev, fun _ _ => rfl, fun _ _ => rfl, fun j o d hj ho => (by have := nth_lt ho; omega), rfl, rfl, fun _ _ _ => hpre, fun j o hj ho => ?_⟩
    have := nth_lt ho
    omega
  | o :: r, pre, env, h, base, used, prev, hall, hev, hpre, hprev, he0, hls => by
    have ih := fun env h base used prev => draw_facts r (pre ++ [o]) env h base used prev (by rw [hall]; simp)
    simp only [List.length_append, List.length_cons, List.length_nil, Nat.zero_add] at ih
    have ho : nth all pre.length = some o := by rw [nth_eq, hall]; simp
    unfold drawOps at hev
    dsimp only at hev
    split at hev
    · cases hev
    · rename_i Ai hAi
      cases hchk : (Nat.blt Ai (2 ^ pre.length) && ((dirs o).all (fun j => Nat.blt j pre.length) && okT A Ai pre.length all env o && dstNew n o.dst (useT Ai all (slotsAt all env o) ++ used))) with
      | false => rw [hchk] at hev; cases hev
      | true =>
        rw [hchk] at hev
        simp only [Bool.and_eq_true] at hchk
        obtain ⟨c1, ⟨c2, c3⟩, c4⟩ := hchk
        have hc : Chk all n E0 A pre.length o Ai env used := ⟨hAi, blt_spec c1, fun j hj => blt_spec (List.all_eq_true.1 c2 j hj), c3, dstNew_spec c4, he0, hls⟩
        have he0' : ∀ v, ∀ t, (∀ j o, j < pre.length + 1 → nth all j = some o → o.dst ≠ some t) → look t (putD env o.dst v) = look t E0 := fun v t ht => (look_putD (ht _ _ (Nat.lt_succ_self _) ho)).trans (he0 t fun j o' hj => ht j o' (by omega))
        have hls' : ∀ j Aj, j < pre.length + 1 → nth A j = some Aj → Aj < 2 ^ j := fun j Aj hj hA => by
          rcases Nat.lt_or_ge j pre.length with q | q
          · exact hls j Aj q hA
          · have : j = pre.length := by omega
            subst this
            rw [hAi] at hA
            injection hA with hA
            subst hA
            exact blt_spec c1
        dsimp only at hev
        -- free and read
        have plain : ∀ {b : List Ob}, isCh C o = false → (kind C o.op = .free → b = []) → (kind C o.op = .read → b = base) → kind C o.op ≠ .chain → (match o.guard with
          | none =>
            (match evalD C o.op (restr env (slotsAt all env o)) b [] with
            | .val v _ => drawOps C n T A all (pre.length + 1) r (putD env o.dst v) h base (o.dst.toList ++ (useT Ai all (slotsAt all env o) ++ used)) prev K
            | .chk c v _ => bif c then drawOps C n T A all (pre.length + 1) r (putD env o.dst v) h base (o.dst.toList ++ (useT Ai all (slotsAt all env o) ++ used)) prev K else none
            | _ => none)
          | some (j, want) => (match (nth all j).bind (·.dst) with
            | some d => (match condG (restr env (slotsAt all env o)) 9 d want with
              | some x =>
                (match evalD C o.op (restr env (slotsAt all env o)) b (actG (restr env (slotsAt all env o)) 9 d want) with
                | .val v _ => drawOps C n T A all (pre.length + 1) r (putD env o.dst (.g d want v)) h base (o.dst.toList ++ (useT Ai all (slotsAt all env o) ++ used)) prev K
                | .chk c v _ => bif (bif x then c else true) then drawOps C n T A all (pre.length + 1) r (putD env o.dst (.g d want v)) h base (o.dst.toList ++ (useT Ai all (slotsAt all env o) ++ used)) prev K else none
                | .no => bif x then none else drawOps C n T A all (pre.length + 1) r (putD env o.dst .u) h base (o.dst.toList ++ (useT Ai all (slotsAt all env o) ++ used)) prev K
                | .call .. => none)
              | none => none)
            | none => none)) = some res → Fx C T n all E0 A K res pre.length env h base used := by
          intro b hch hb0 hb hk hev
          have hnext : PrevOk C all (pre.length + 1) prev := by
            cases prev with
            | none => unfold PrevOk at *; rw [cnt_not ho hch]; exact hprev
            | some p => unfold PrevOk at *; rw [cnt_not ho hch]; exact hprev
          have same : ∀ {gs : List (Nat × Bool)} {v : V}, (∀ h', ((evalD C o.op (restr env (slotsAt all env o)) b gs).at h').got v h') → evalD C o.op (restr env (slotsAt all env o)) b gs ≠ .no →
              ∀ h', (kind C o.op = .read → Pre base h') → (evalW C T o (restr env (slotsAt all env o)) h' gs).got v h' := by
            intro gs v hgot hno h' hp
            rw [evalW_kind o _ _ _ hk]
            cases hkk : kind C o.op with
            | free =>
              have hb' := hb0 hkk
              subst hb'
              rcases free_at h' o.op (restr env (slotsAt all env o)) gs hkk with e | e
              · exact absurd e hno
              · rw [e]; exact hgot h'
            | read =>
              have hb' := hb hkk
              subst hb'
              rcases read_at' (hp hkk) o.op (restr env (slotsAt all env o)) gs hkk with e | e
              · exact absurd e hno
              · rw [e]; exact hgot h'
            | chain => exact absurd hkk hk
          split at hev
          · rename_i hgd
            obtain ⟨v, hgo, hat⟩ := out_op (go := fun v => drawOps C n T A all (pre.length + 1) r (putD env o.dst v) h base (o.dst.toList ++ (useT Ai all (slotsAt all env o) ++ used)) prev K) hev
            have hno : evalD C o.op (restr env (slotsAt all env o)) b [] ≠ .no := fun e => by have := hat h; rw [e] at this; exact this
            refine fx_same ho hc hch (dv := v) (fun hf => ?_) (fun hf => ?_) (ih _ _ _ _ _ hgo hpre hnext (he0' _) hls')
            · unfold GCore
              rw [hgd]
              exact fun h' _ => ⟨h', rfl, same hat hno h' (fun e => by rw [hf] at e; cases e)⟩
            · unfold GCore
              rw [hgd]
              exact fun h' hp => ⟨h', rfl, same hat hno h' (fun _ => hp)⟩
          · rename_i j want hgd
            split at hev
            · rename_i d hd
              split at hev
              · rename_i x hx
                rcases out_opg (go := fun v => drawOps C n T A all (pre.length + 1) r (putD env o.dst (.g d want v)) h base (o.dst.toList ++ (useT Ai all (slotsAt all env o) ++ used)) prev K) (sk := drawOps C n T A all (pre.length + 1) r (putD env o.dst .u) h base (o.dst.toList ++ (useT Ai all (slotsAt all env o) ++ used)) prev K) hev with ⟨hxf, hgo⟩ | ⟨v, hgo, hat, hno⟩
                · refine fx_same ho hc hch (dv := .u) (fun hf => ?_) (fun hf => ?_) (ih _ _ _ _ _ hgo hpre hnext (he0' _) hls')
                  · unfold GCore
                    rw [hgd]
                    exact ⟨d, x, hd, hx, fun hxt => (by rw [hxf] at hxt; cases hxt), fun _ => ⟨.inl rfl, fun _ _ => rfl⟩⟩
                  · unfold GCore
                    rw [hgd]
                    exact ⟨d, x, hd, hx, fun hxt => (by rw [hxf] at hxt; cases hxt), fun _ => ⟨.inl rfl, fun _ _ => rfl⟩⟩
                refine fx_same ho hc hch (dv := .g d want v) (fun hf => ?_) (fun hf => ?_) (ih _ _ _ _ _ hgo hpre hnext (he0' _) hls')
                · unfold GCore
                  rw [hgd]
                  exact ⟨d, x, hd, hx, fun hxt => ⟨v, _, .inl rfl, .inr rfl, fun h' _ => ⟨h', rfl, same (hat hxt) hno h' (fun e => by rw [hf] at e; cases e)⟩⟩, fun _ => ⟨.inr ⟨v, rfl⟩, fun _ _ => rfl⟩⟩
                · unfold GCore
                  rw [hgd]
                  exact ⟨d, x, hd, hx, fun hxt => ⟨v, _, .inl rfl, .inr rfl, fun h' hp => ⟨h', rfl, same (hat hxt) hno h' (fun _ => hp)⟩⟩, fun _ => ⟨.inr ⟨v, rfl⟩, fun _ _ => rfl⟩⟩
              · cases hev
            · cases hev
        cases hk : kind C o.op with
        | free =>
          rw [hk] at hev
          exact plain (b := []) (by simp only [isCh, hk]) (fun _ => rfl) (fun e => by rw [hk] at e; cases e) (by rw [hk]; decide) hev
        | read =>
          rw [hk] at hev
          exact plain (b := base) (by simp only [isCh, hk]) (fun e => by rw [hk] at e; cases e) (fun _ => rfl) (by rw [hk]; decide) hev
        | chain =>
          rw [hk] at hev
          have hch : isCh C o = true := by simp only [isCh, hk]
          dsimp only at hev
          cases hpb : prevB Ai prev with
          | false => rw [hpb] at hev; cases hev
          | true =>
            rw [hpb] at hev
            dsimp only at hev
            have hprev' : cnt C all pre.length = 0 ∨ ∃ p op, nth all p = some op ∧ isCh C op = true ∧ cnt C all p + 1 = cnt C all pre.length ∧ Nat.testBit Ai p = true := by
              cases prev with
              | none => exact .inl hprev
              | some p =>
                obtain ⟨op, h1, h2, h3⟩ := hprev
                exact .inr ⟨p, op, h1, h2, h3, hpb⟩
            have hnext : PrevOk C all (pre.length + 1) (some pre.length) := ⟨o, ho, hch, (cnt_ch ho hch).symm⟩
            have goB : ∀ {env' : Env} {v : V} {h' : List Ob} {e1 : Env} {gs : List (Nat × Bool)}, (∀ t, look t env' = look t env) → (evalCall C T o e1 h gs).got v h' → (bif (barB C A pre.length 0 all || presO T o e1 gs base h) then drawOps C n T A all (pre.length + 1) r (putD env' o.dst v) h' (bif barB C A pre.length 0 all then h' else base) (o.dst.toList ++ (useT Ai all (slotsAt all env o) ++ used)) (some pre.length) K else none) = some res →
                GCore C T all o (restr env (slotsAt all env o)) v (fun x => x = h) (fun _ x => x = h') → Fx C T n all E0 A K res pre.length env h base used := by
              intro env' v h' e1 gs he hgot hgo hcore
              have he0'' : ∀ t, (∀ j o, j < pre.length + 1 → nth all j = some o → o.dst ≠ some t) → look t (putD env' o.dst v) = look t E0 := fun t ht => (putD_congr he o.dst v t).trans (he0' v t ht)
              cases hb : barB C A pre.length 0 all with
              | true =>
                rw [hb, Bool.true_or, cond_true, cond_true] at hgo
                exact fx_chain ho hc hch hcore hprev' (.inl hb) hpre ((ih _ _ _ _ _ hgo (.refl _) hnext he0'' hls').congr fun t => putD_congr he o.dst v t)
              | false =>
                rw [hb, Bool.false_or, cond_false] at hgo
                cases hp : presO T o e1 gs base h with
                | false => rw [hp, cond_false] at hgo; cases hgo
                | true =>
                  rw [hp, cond_true] at hgo
                  exact fx_chain ho hc hch hcore hprev' (.inr rfl) hpre ((ih _ _ _ _ _ hgo (pres_ok hpre hp hgot) hnext he0'' hls').congr fun t => putD_congr he o.dst v t)
            split at hev
            · rename_i hgd
              obtain ⟨v, h', hgot, hgo⟩ := out_go (go := fun v h' => bif (barB C A pre.length 0 all || presO T o (restr env (slotsAt all env o)) [] base h) then drawOps C n T A all (pre.length + 1) r (putD env o.dst v) h' (bif barB C A pre.length 0 all then h' else base) (o.dst.toList ++ (useT Ai all (slotsAt all env o) ++ used)) (some pre.length) K else none) hev
              refine goB (fun _ => rfl) hgot hgo ?_
              unfold GCore
              rw [hgd]
              rintro _ rfl
              exact ⟨h', rfl, by rw [evalW_chain o _ _ _ hk]; exact hgot⟩
            · rename_i j want hgd
              split at hev
              · rename_i d hd
                split at hev
                · rename_i x hx
                  cases hcalm : calmOper C T o (restr env (slotsAt all env o)) with
                  | true =>
                    rw [hcalm] at hev
                    dsimp only at hev
                    rcases out_calm (go := fun v => drawOps C n T A all (pre.length + 1) r (putD env o.dst (.g d want v)) h base (o.dst.toList ++ (useT Ai all (slotsAt all env o) ++ used)) (some pre.length) K) (sk := drawOps C n T A all (pre.length + 1) r (putD env o.dst .u) h base (o.dst.toList ++ (useT Ai all (slotsAt all env o) ++ used)) (some pre.length) K) hev with ⟨hxf, hgo⟩ | ⟨v, hgo, hgot⟩
                    · refine fx_chain ho hc hch (dv := .u) (h' := h) (base' := base) ?_ hprev' (.inr rfl) hpre (ih _ _ _ _ _ hgo hpre hnext (he0' _) hls')
                      unfold GCore
                      rw [hgd]
                      exact ⟨d, x, hd, hx, fun hxt => (by rw [hxf] at hxt; cases hxt), fun _ => ⟨.inl rfl, fun _ e => e⟩⟩
                    refine fx_chain ho hc hch (dv := .g d want v) (h' := h) (base' := base) ?_ hprev' (.inr rfl) hpre (ih _ _ _ _ _ hgo hpre hnext (he0' _) hls')
                    unfold GCore
                    rw [hgd]
                    refine ⟨d, x, hd, hx, fun hxt => ⟨v, _, .inl rfl, .inr rfl, ?_⟩, fun _ => ⟨.inr ⟨v, rfl⟩, fun _ e => e⟩⟩
                    intro x0 hx0
                    obtain ⟨h', hg⟩ := hgot hxt
                    refine ⟨h, rfl, ?_⟩
                    rw [hx0, evalW_chain o _ _ _ hk]
                    have hsame := calmOper_same (C := C) (h := h) (gs := actG (restr env (slotsAt all env o)) 9 d want) hcalm
                    cases hO : evalCall C T o (restr env (slotsAt all env o)) h (actG (restr env (slotsAt all env o)) 9 d want) with
                    | no => rw [hO] at hg; exact hg
                    | val v1 h1 => rw [hO] at hg hsame; exact ⟨hg.1, hsame⟩
                    | chk c v1 h1 => rw [hO] at hg hsame; exact ⟨hg.1, hg.2.1, hsame⟩
                    | call W y q vf hf =>
                      rw [hO] at hg hsame
                      obtain ⟨y, k1, k2, k3⟩ := hg
                      exact ⟨y, k1, k2, hsame y⟩
                  | false =>
                    rw [hcalm] at hev
                    dsimp only at hev
                    split at hev
                    · rename_i b0 hb0
                      cases x with
                      | true =>
                        rw [cond_true] at hev
                        obtain ⟨v, h', hgot, hgo⟩ := out_go (go := fun v h' => bif (barB C A pre.length 0 all || presO T o ((d, V.b want) :: restr env (slotsAt all env o)) (actG (restr env (slotsAt all env o)) 9 d want) base h) then drawOps C n T A all (pre.length + 1) r (putD ((d, V.b want) :: env) o.dst v) h' (bif barB C A pre.length 0 all then h' else base) (o.dst.toList ++ (useT Ai all (slotsAt all env o) ++ used)) (some pre.length) K else none) hev
                        refine goB (told_env hb0 hx) hgot hgo ?_
                        unfold GCore
                        rw [hgd]
                        refine ⟨d, true, hd, hx, fun _ => ⟨v, _, .inr rfl, .inl rfl, ?_⟩, fun e => (by cases e)⟩
                        rintro _ rfl
                        exact ⟨h', rfl, by rw [evalW_chain o _ _ _ hk]; exact hgot⟩
                      | false =>
                        rw [cond_false] at hev
                        have hcore : GCore C T all o (restr env (slotsAt all env o)) .u (fun x => x = h) (fun _ x => x = h) := by
                          unfold GCore
                          rw [hgd]
                          exact ⟨d, false, hd, hx, fun e => (by cases e), fun _ => ⟨.inl rfl, fun _ e => e⟩⟩
                        cases hb : barB C A pre.length 0 all with
                        | true =>
                          rw [hb, cond_true] at hev
                          exact fx_chain ho hc hch hcore hprev' (.inl hb) hpre ((ih _ _ _ _ _ hev (.refl _) hnext (fun t ht => (putD_congr (told_env hb0 hx) o.dst .u t).trans (he0' .u t ht)) hls').congr fun t => putD_congr (told_env hb0 hx) o.dst .u t)
                        | false =>
                          rw [hb, cond_false] at hev
                          exact fx_chain ho hc hch hcore hprev' (.inr rfl) hpre ((ih _ _ _ _ _ hev hpre hnext (fun t ht => (putD_congr (told_env hb0 hx) o.dst .u t).trans (he0' .u t ht)) hls').congr fun t => putD_congr (told_env hb0 hx) o.dst .u t)
                    · cases hev
                · cases hev
              · cases hev

theorem look_stripG (E : Env) (t : Nat) : look t (stripG E) = noG (look t E) := by
  unfold stripG
  induction E with
  | nil => rfl
  | cons p r ih =>
    obtain ⟨d, v⟩ := p
    simp only [List.map_cons]
    rw [look_cons, look_cons, ih]
    split <;> rfl

theorem li_none {m i : Nat} : ¬ Li (Array.replicate m false) i := by
  unfold Li
  rw [Array.getD_eq_getD_getElem?, Array.getElem?_replicate]
  split <;> simp

theorem drawOps_ok {D : List Deferred} {kp : List Nat} (hT : ∀ p, p ∈ T → Snd C p.1 p.2) {ops : Array Oper} {id : Nat} (hm : C.P.follows .mixedOrders = true) {s : St} (h : drawOps C n T (ancT ops.toList []) ops.toList 0 ops.toList s.env s.h (deadB (apOld C T (ancT ops.toList []) ops.toList s.env s.h 0 ops.toList) s.h) kp none K = some res) {G : Gh C.gl} {a : Act} {w : World} (hA : Abs D n G s a w)
    {Q : Exit → Act → World → Prop} (hQ : ∀ s' G' a' w', Abs D n G' s' a' w' → Ext G w G' w' → K s' = some res → (∀ d, d ∈ kp → a'.tmps.getD d undef = a.tmps.getD d undef) → Q .normal a' w') : (Code.region id ops true).wp C.P Q a w := by
  obtain ⟨E, hs, hb, k2, k3, k8, ku, k4, k5, k6, k7⟩ := draw_facts (all := ops.toList) (E0 := s.env) (A := ancT ops.toList []) ops.toList [] s.env s.h _ kp none rfl h (Pre.deadB _ (.refl _)) rfl (fun _ _ => rfl) (fun j Aj hj => absurd hj (Nat.not_lt_zero _))
  simp only [List.length_nil, cnt] at k4 k5 k6
  have hK : Known C T n ops.toList s.env (ancT ops.toList []) E hs hb kp := by
    refine ⟨fun i o d ho hd => ku i o d (Nat.zero_le _) ho hd, ancT_spec ops.toList [] [] rfl rfl ?_, fun i o ho => k7 i o (Nat.zero_le _) ho, fun c hc => k6 c (Nat.zero_le _) hc⟩
    intro i A hi
    simp [nth] at hi
  have hh : ({ w with drawn := w.drawn + 1 } : World).heap = w.heap := rfl
  have hex : Ext G w G { w with drawn := w.drawn + 1 } := .of_heap hh ⟨rfl, rfl, rfl⟩
  refine wp_region_any hm ?_
  refine sim (n := n) hT rfl hK (G0 := G) (w0 := w) (t0 := a.tmps) (fun G' a' w' q1 q2 q3 q4 q5 q6 => ?_) ops.size _ a _ 0 G ⟨hA.defers, fun _ _ => rfl, hA.size, by simp, ?_, Nat.zero_le _, ?_, ?_, hex, fun t _ => (hA.env t).mono (.of_heap hh), ?_⟩ ?_
  · refine hQ _ G' a' w' ⟨q1, q2, fun t => ?_, q3⟩ q4 k2 q6
    show Rel G' w' (look t (stripG E)) _
    rw [look_stripG]
    have := q5 t
    cases hl : look t E with
    | g d want u => exact .u _
    | _ => rw [hl] at this; exact this
  · intro i o ho hli
    exact absurd hli li_none
  · intro i o ho hc
    exact ⟨fun e => absurd e li_none, fun e => absurd e (Nat.not_lt_zero _)⟩
  · rw [k4]
    exact .of_heap hh hA.mem
  · intro t ht
    rw [k8 t fun j o _ hj hd => li_none (ht j o hj hd)]
    have := (hA.env t).mono (.of_heap hh)
    refine ⟨RelE.of this, fun d want u e => ?_⟩
    rw [e] at this
    cases this
  · have : ∀ N, cntU (fun i => (Array.replicate ops.size false).getD i false) N ≤ N := by
      intro N
      induction N with
      | zero => exact Nat.le_refl _
      | succ N ih =>
        simp only [cntU]
        split <;> omega
    have := this ops.toList.length
    simpa using this
end
end Go.Pv
