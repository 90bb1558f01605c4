/- The engine, part 12d: regions without an order: any order comes to the same. -/
import Derived.Test.YtfnhnkaikpgnbaaPvE
namespace Go.Pv
open Go
set_option linter.all false
set_option linter.constructorNameAsVariable false
set_option linter.unusedSectionVars false
set_option linter.unusedVariables false
set_option linter.unusedSimpArgs false

def cntU (f : Nat → Bool) : Nat → Nat
  | 0 => 0
  | m + 1 => cntU f m + match f m with | true => 0 | false => 1
theorem cntU_le {f g : Nat → Bool} (h : ∀ j, f j = true → g j = true) : ∀ N, cntU g N ≤ cntU f N
  | 0 => Nat.le_refl _
  | N + 1 => by
    have := cntU_le h N
    simp only [cntU]
    cases hf : f N with
    | true => rw [h N hf]; simp; omega
    | false => cases g N <;> simp <;> omega
theorem cntU_lt {f g : Nat → Bool} (h : ∀ j, f j = true → g j = true) {i : Nat} (hf : f i = false) (hg : g i = true) : ∀ N, i < N → cntU g N < cntU f N
  | 0, hN => by omega
  | N + 1, hN => by
    simp only [cntU]
    by_cases he : i = N
    · subst he
      have := cntU_le h i
      rw [hf, hg]; simp; omega
    · have := cntU_lt h hf hg N (by omega)
      cases hfN : f N with
      | true => rw [h N hfN]; simp; omega
      | false => cases g N <;> simp <;> omega
theorem cntU_zero {f : Nat → Bool} : ∀ N, cntU f N = 0 → ∀ i, i < N → f i = true
  | 0, h, i, hi => by omega
  | N + 1, h, i, hi => by
    simp only [cntU] at h
    by_cases he : i = N
    · subst he
      cases hf : f i with
      | true => rfl
      | false => rw [hf] at h; simp at h
    · exact cntU_zero N (by omega) i (by omega)

section
variable {D : List Deferred} {C : Cfg} {T : List (Nat × Spec)} {n : Nat} {all : List Oper}

def Li (listed : Array Bool) (i : Nat) : Prop := listed.getD i false = true
def OkT (all : List Oper) (listed : Array Bool) (t : Nat) : Prop := ∀ j o, nth all j = some o → o.dst = some t → Li listed j

structure SInv (D : List Deferred) (C : Cfg) (all : List Oper) (n : Nat) (E0 E : Env) (hs : Nat → List Ob) (G0 : Gh C.gl) (w0 : World) (kp : List Nat) (t0 : Array Value) (listed : Array Bool) (a : Act) (w : World) (k : Nat) (G : Gh C.gl) : Prop where
  defers : a.defers = D
  keep : ∀ d, d ∈ kp → a.tmps.getD d undef = t0.getD d undef
  size : a.tmps.size = n
  lsz : listed.size = all.length
  shut : Shut all (Li listed)
  le : k ≤ cnt C all all.length
  ch : ∀ s o, nth all s = some o → isCh C o = true → (Li listed s ↔ cnt C all s < k)
  mem : Mem G w (hs k)
  ext : Ext G0 w0 G w
  old : ∀ t, (∀ j o, nth all j = some o → o.dst = some t → ¬ Li listed j) → Rel G w (look t E0) (a.tmps.getD t undef)
  env : ∀ t, OkT all listed t → RelE G w a.tmps (look t E) (a.tmps.getD t undef) ∧ ∀ d want u, look t E = .g d want u → OkT all listed d

theorem li_set {listed : Array Bool} {i j : Nat} (hi : i < listed.size) : Li (listed.setIfInBounds i true) j ↔ j = i ∨ Li listed j := by
  unfold Li
  by_cases h : i = j
  · subst h
    simp [hi]
  · rw [getD_set_ne false h]
    constructor
    · exact .inr
    · rintro (e | e)
      · exact absurd e.symm h
      · exact e

theorem SInv.put {E0 E : Env} {hs : Nat → List Ob} {G0 : Gh C.gl} {w0 : World} {kp : List Nat} {t0 : Array Value} {listed : Array Bool} {a : Act} {w : World} {k : Nat} {G : Gh C.gl} (hI : SInv D C all n E0 E hs G0 w0 kp t0 listed a w k G) {i : Nat} {o : Oper} (ho : nth all i = some o)
    (hun : ¬ Li listed i) (hdep : ∀ j, j ∈ dirs o → Li listed j) (hdst : ∀ d, o.dst = some d → d < n) (hkp : ∀ d, o.dst = some d → d ∉ kp) {k' : Nat} {G' : Gh C.gl} {w' : World} (hle : k' ≤ cnt C all all.length)
    (hch : ∀ s o', nth all s = some o' → isCh C o' = true → ((s = i ∨ Li listed s) ↔ cnt C all s < k')) (hm : Mem G' w' (hs k')) (hsub : Subs G w G' w') (hext : Ext G w G' w') {dv : V} {val : Value} (hl : lookD E o.dst dv)
    (hrel : ∀ tmps' : Array Value, (∀ d, OkT all listed d → tmps'.getD d undef = a.tmps.getD d undef) → RelE G' w' tmps' dv val) (hg : ∀ d want u, dv = .g d want u → OkT all listed d) :
    SInv D C all n E0 E hs G0 w0 kp t0 (listed.setIfInBounds i true) (a.put o.dst val) w' k' G' := by
  have hilt : i < listed.size := by rw [hI.lsz]; exact nth_lt ho
  have hne : ∀ d, OkT all listed d → o.dst ≠ some d := fun d hd e => hun (hd i o ho e)
  have hold : ∀ d, OkT all listed d → (a.put o.dst val).tmps.getD d undef = a.tmps.getD d undef := by
    intro d hd
    cases hod : o.dst with
    | none => rfl
    | some e =>
      have : ¬ e = d := fun h => hne d hd (by rw [hod, h])
      show (a.tmps.setIfInBounds e val).getD d undef = _
      rw [getD_set _ _ _ _ (by rw [hI.size]; exact hdst e hod), if_neg this]
  have okmore : ∀ d, OkT all listed d → OkT all (listed.setIfInBounds i true) d := fun d hd j o' hj hd' => (li_set hilt).2 (.inr (hd j o' hj hd'))
  have hold' : ∀ t, (∀ j o', nth all j = some o' → o'.dst = some t → ¬ Li (listed.setIfInBounds i true) j) → Rel G' w' (look t E0) ((a.put o.dst val).tmps.getD t undef) := by
    intro t ht
    have hod : o.dst ≠ some t := fun e => ht i o ho e ((li_set hilt).2 (.inl rfl))
    have h1 := hI.old t fun j o' hj hd hl' => ht j o' hj hd ((li_set hilt).2 (.inr hl'))
    have h2 : (a.put o.dst val).tmps.getD t undef = a.tmps.getD t undef := by
      cases hod' : o.dst with
      | none => rfl
      | some e =>
        have : ¬ e = t := fun h => hod (by rw [hod', h])
        show (a.tmps.setIfInBounds e val).getD t undef = _
        rw [getD_set _ _ _ _ (by rw [hI.size]; exact hdst e hod'), if_neg this]
    rw [h2]
    exact h1.mono hsub
  refine ⟨?_, ?_, ?_, ?_, ?_, hle, ?_, hm, hI.ext.trans hext, hold', ?_⟩
  · cases o.dst <;> exact hI.defers
  · intro d hd
    rw [← hI.keep d hd]
    cases hod : o.dst with
    | none => rfl
    | some e =>
      have : ¬ e = d := fun h => hkp e hod (h ▸ hd)
      show (a.tmps.setIfInBounds e val).getD d undef = _
      rw [getD_set _ _ _ _ (by rw [hI.size]; exact hdst e hod), if_neg this]
  · cases o.dst with
    | none => exact hI.size
    | some d => simp [Act.put, hI.size]
  · simp [hI.lsz]
  · intro j oj hj hlj d hd
    rcases (li_set hilt).1 hlj with rfl | hlj
    · rw [ho] at hj
      injection hj with hj
      subst hj
      exact (li_set hilt).2 (.inr (hdep d hd))
    · exact (li_set hilt).2 (.inr (hI.shut j oj hj hlj d hd))
  · intro s o' hs' hc
    rw [li_set hilt]
    exact hch s o' hs' hc
  · intro t ht
    by_cases htd : o.dst = some t
    · rw [hl t htd]
      have hval : (a.put o.dst val).tmps.getD t undef = val := by
        rw [htd]
        show (a.tmps.setIfInBounds t val).getD t undef = _
        rw [getD_set _ _ _ _ (by rw [hI.size]; exact hdst t htd), if_pos rfl]
      rw [hval]
      exact ⟨hrel _ hold, fun d want u e => okmore d (hg d want u e)⟩
    · have htok : OkT all listed t := fun j o' hj hd' => by
        rcases (li_set hilt).1 (ht j o' hj hd') with rfl | k
        · rw [ho] at hj
          injection hj with hj
          subst hj
          exact absurd hd' htd
        · exact k
      obtain ⟨h1, h2⟩ := hI.env t htok
      rw [hold t htok]
      refine ⟨?_, fun d want u e => okmore d (h2 d want u e)⟩
      have h1 := h1.mono hsub
      cases hlk : look t E with
      | g d want u =>
        rw [hlk] at h1
        show (_ → _) ∧ (_ → _)
        rw [hold d (h2 d want u hlk)]
        exact h1
      | _ => rw [hlk] at h1; exact h1

/-- What holds of all the operations. -/
structure Known (C : Cfg) (T : List (Nat × Spec)) (n : Nat) (all : List Oper) (E0 : Env) (A : List Nat) (E : Env) (hs hb : Nat → List Ob) (kp : List Nat) : Prop where
  kp : ∀ i o d, nth all i = some o → o.dst = some d → d ∉ kp
  anc : AncOk all A
  sf : ∀ i o, nth all i = some o → ∃ Ai, SF (C := C) (T := T) (n := n) all E0 A E (hs (cnt C all i)) (hs (cnt C all i + 1)) (hb (cnt C all i)) (hb (cnt C all i + 1)) i o Ai
  pre : ∀ c, c ≤ cnt C all all.length → Pre (hb c) (hs c)

theorem hb_eq {E0 : Env} {A : List Nat} {E : Env} {hs hb : Nat → List Ob} {kp : List Nat} (hK : Known C T n all E0 A E hs hb kp) {c : Nat} : ∀ m, c + m ≤ cnt C all all.length →
    (∀ s o, nth all s = some o → isCh C o = true → c ≤ cnt C all s → cnt C all s < c + m → barB C A s 0 all = false) → hb (c + m) = hb c
  | 0, _, _ => rfl
  | m + 1, hle, h => by
    have ih := hb_eq hK (c := c) m (by omega) (fun s o h1 h2 h3 h4 => h s o h1 h2 h3 (by omega))
    obtain ⟨s, o, h1, h2, h3, h4⟩ := cnt_surj (C := C) (all := all) all.length (c + m) (by omega)
    obtain ⟨Ai, hsf⟩ := hK.sf s o h2
    have := (hsf.chain h3).2.2
    rw [h s o h2 h3 (by omega) (by omega), h4] at this
    rcases this with k | k
    · cases k
    · rw [show c + (m + 1) = c + m + 1 by omega, k, ih]

theorem bits_lt {A i k : Nat} (h : A < 2 ^ i) (hb : Nat.testBit A k = true) : k < i := by
  rcases Nat.lt_or_ge k i with h' | h'
  · exact h'
  · have : A < 2 ^ k := Nat.lt_of_lt_of_le h (Nat.pow_le_pow_right (by omega) h')
    rw [Nat.testBit_lt_two_pow this] at hb
    cases hb

theorem sim (hT : ∀ p, p ∈ T → Snd C p.1 p.2) {ops : Array Oper} (hall : ops.toList = all) {E0 : Env} {A : List Nat} {E : Env} {hs hb : Nat → List Ob} {kp : List Nat} {t0 : Array Value} (hK : Known C T n all E0 A E hs hb kp) {G0 : Gh C.gl} {w0 : World} {Q : Exit → Act → World → Prop}
    (hQ : ∀ G a w, a.defers = D → a.tmps.size = n → Mem G w (hs (cnt C all all.length)) → Ext G0 w0 G w → EnvR G w E a.tmps → (∀ d, d ∈ kp → a.tmps.getD d undef = t0.getD d undef) → Q .normal a w) :
    ∀ fuel listed a w k G, SInv D C all n E0 E hs G0 w0 kp t0 listed a w k G → cntU (fun i => listed.getD i false) all.length ≤ fuel → wpAny C.P .any ops Q fuel listed a w := by
  have hget : ∀ i, ops[i]? = nth all i := fun i => by rw [nth_eq, ← hall, Array.getElem?_toList]
  -- nothing is ready: all is done
  have done : ∀ listed a w k G, SInv D C all n E0 E hs G0 w0 kp t0 listed a w k G → Region.ready .any ops listed = [] → (∀ i, i < all.length → Li listed i) := by
    intro listed a w k G hI hr i
    induction i using Nat.strongRecOn with
    | ind i ih =>
      intro hi
      rcases Bool.eq_false_or_eq_true (listed.getD i false) with h | h
      · exact h
      · exfalso
        have ho : nth all i = some all[i] := by rw [nth_eq, List.getElem?_eq_getElem hi]
        have : i ∈ Region.ready .any ops listed := by
          refine mem_ready.2 ⟨?_, all[i], by rw [hget, ho], fun e he hb => ?_⟩
          · have hlt : i < listed.size := by rw [hI.lsz]; exact hi
            simp only [Array.getD, hlt, dif_pos] at h ⊢
            exact h
          · obtain ⟨Ai, hsf⟩ := hK.sf i _ ho
            exact ih e.on (hsf.dlt _ (by simp only [dirs, List.mem_map, List.mem_filter]; exact ⟨e, ⟨by simpa using he, hb⟩, rfl⟩)) (by have := hsf.dlt e.on (by simp only [dirs, List.mem_map, List.mem_filter]; exact ⟨e, ⟨by simpa using he, hb⟩, rfl⟩); omega)
        rw [hr] at this
        cases this
  have fin : ∀ listed a w k G, SInv D C all n E0 E hs G0 w0 kp t0 listed a w k G → (∀ i, i < all.length → Li listed i) → Q .normal a w := by
    intro listed a w k G hI hl
    have hk : k = cnt C all all.length := by
      rcases Nat.lt_or_ge k (cnt C all all.length) with h | h
      · obtain ⟨s, o, h1, h2, h3, h4⟩ := cnt_surj (C := C) (all := all) all.length k h
        have := (hI.ch s o h2 h3).1 (hl s h1)
        omega
      · have := hI.le; omega
    exact hQ G a w hI.defers hI.size (hk ▸ hI.mem) hI.ext (fun t => (hI.env t fun j o hj _ => hl j (nth_lt hj)).1) hI.keep
  intro fuel
  induction fuel with
  | zero =>
    intro listed a w k G hI hc
    have hl : ∀ i, i < all.length → Li listed i := cntU_zero _ (by omega)
    refine ⟨?_, fin listed a w k G hI hl⟩
    cases hr : Region.ready .any ops listed with
    | nil => rfl
    | cons i r =>
      exfalso
      have hi : i ∈ Region.ready .any ops listed := by rw [hr]; exact List.mem_cons_self ..
      obtain ⟨h1, o, h2, _⟩ := mem_ready.1 hi
      rw [hget] at h2
      have h3 := hl i (nth_lt h2)
      have hlt : i < listed.size := by rw [hI.lsz]; exact nth_lt h2
      simp only [Li, Array.getD, hlt, dif_pos] at h1 h3
      rw [h1] at h3
      cases h3
  | succ fuel ih =>
    intro listed a w k G hI hc
    refine ⟨fun hr => fin listed a w k G hI (done listed a w k G hI hr), fun i hi => ?_⟩
    obtain ⟨h1, o, h2, h3⟩ := mem_ready.1 hi
    have ho : nth all i = some o := by rw [← hget]; exact h2
    have hilt : i < all.length := nth_lt ho
    have hun : listed.getD i false = false := by
      have hlt : i < listed.size := by rw [hI.lsz]; exact hilt
      simp only [Array.getD, hlt, dif_pos] at h1 ⊢
      exact h1
    have hun' : ¬ Li listed i := fun e => by unfold Li at e; rw [hun] at e; cases e
    have hdep : ∀ j, j ∈ dirs o → Li listed j := by
      intro j hj
      simp only [dirs, List.mem_map, List.mem_filter] at hj
      obtain ⟨e, ⟨he, hb⟩, rfl⟩ := hj
      exact h3 e (by simpa using he) hb
    obtain ⟨Ai, hsf⟩ := hK.sf i o ho
    have ancL : ∀ b, Nat.testBit Ai b = true → Li listed b := hK.anc i Ai hsf.at_ (Li listed) hI.shut o ho hdep
    have okA : ∀ t, ahead Ai t 0 all = true → OkT all listed t := fun t ht j o' hj hd => ancL _ (by have := ahead_spec all 0 ht j o' hj hd; simpa using this)
    -- behind it
    have after : ∀ {k' : Nat} {G' : Gh C.gl} {w' : World} (hle : k' ≤ cnt C all all.length) (hch : ∀ s o', nth all s = some o' → isCh C o' = true → ((s = i ∨ Li listed s) ↔ cnt C all s < k')) (hm : Mem G' w' (hs k')) (hsub : Subs G w G' w') (hext : Ext G w G' w') {dv : V} {val : Value} (hl : lookD E o.dst dv)
        (hrel : ∀ tmps' : Array Value, (∀ d, OkT all listed d → tmps'.getD d undef = a.tmps.getD d undef) → RelE G' w' tmps' dv val) (hg : ∀ d want u, dv = .g d want u → OkT all listed d), wpAny C.P .any ops Q fuel (listed.setIfInBounds i true) (a.put o.dst val) w' := by
      intro k' G' w' hle hch hm hsub hext dv val hl hrel hg
      refine ih _ _ _ k' G' (hI.put ho hun' hdep hsf.dst (fun d hd => hK.kp i o d ho hd) hle hch hm hsub hext hl hrel hg) ?_
      have := cntU_lt (f := fun j => listed.getD j false) (g := fun j => (listed.setIfInBounds i true).getD j false) (fun j hj => (li_set (by rw [hI.lsz]; exact hilt)).2 (.inr hj)) (i := i) hun ((li_set (by rw [hI.lsz]; exact hilt)).2 (.inl rfl)) all.length hilt
      omega
    have run : ∀ (k' : Nat) (MA : List Ob → Prop) (MB : List Ob → List Ob → Prop), GFact C T all E0 A i E Ai o MA MB → MA (hs k) → (∀ h', MB (hs k) h' → h' = hs k') → k' ≤ cnt C all all.length →
        (∀ s o', nth all s = some o' → isCh C o' = true → ((s = i ∨ Li listed s) ↔ cnt C all s < k')) → wpOp C.P ops Q i (wpAny C.P .any ops Q fuel (listed.setIfInBounds i true)) a w := by
      rintro k' MA MB ⟨hgda, ei, dv, hei, hl, hcore⟩ hMA hMB hle hch
      have he : EnvR G w ei a.tmps := fun t => by
        rcases hei t with e | ⟨e1, e2⟩ | ⟨e1, e2⟩
        · rw [e]; exact RelE.of (.u _)
        · rw [e1]; exact (hI.env t (okA t e2)).1
        · rw [e1]
          refine RelE.of (hI.old t fun j o' hj hd hl' => ?_)
          obtain ⟨q1, q2⟩ := old_spec all 0 e2 j o' hj hd
          rw [Nat.zero_add] at q1 q2
          obtain ⟨Aj, hsfj⟩ := hK.sf j o' hj
          rw [hsfj.at_] at q2
          exact hun' (hK.anc j Aj hsfj.at_ (Li listed) hI.shut o' hj (hI.shut j o' hj hl') i q2)
      unfold wpOp
      rw [h2]
      dsimp only
      unfold GCore at hcore
      split at hcore
      · rename_i hgd
        rw [if_pos (by simp [Region.wanted, hgd])]
        left
        obtain ⟨h', hb', hgot⟩ := hcore _ hMA
        refine got_ok hT hI.mem he (gs := []) (fun p hp => by cases hp) o hgot ?_
        intro val w' G' k1 k2 k3 k4
        rw [hMB h' hb'] at k2
        exact after hle hch k2 k3 k4 hl (fun _ _ => RelE.of k1) (fun d want u e => absurd e (rel_not_g k1 _ _ _))
      · rename_i j want hgd
        obtain ⟨d, x, hd, hx, htrue, hfalse⟩ := hcore
        have hwant := wanted_iff (n := n) hI.size (ops := ops) hgd (by rw [hall]; exact hd)
        have hxw := condG_ok he 9 d want hx
        have okd : OkT all listed d := okA d (hgda j want hgd d hd)
        cases x with
        | true =>
          have htd := hxw.1 rfl
          rw [if_pos (hwant.2 htd)]
          left
          obtain ⟨v, ei', he', hdv, hrun⟩ := htrue rfl
          obtain ⟨h', hb', hgot⟩ := hrun _ hMA
          have heR : EnvR G w ei' a.tmps := by
            rcases he' with rfl | rfl
            · exact he
            · exact env_told he (by rw [htd]; exact RelE.of (.b _))
          refine got_ok hT hI.mem heR (actG_met he 9 d want htd) o hgot ?_
          intro val w' G' k1 k2 k3 k4
          rw [hMB h' hb'] at k2
          refine after hle hch k2 k3 k4 hl (fun tmps' ht => ?_) (fun d' want' u e => ?_)
          · rcases hdv with rfl | rfl
            · exact RelE.of k1
            · exact ⟨fun _ => k1, fun hne => absurd ((ht d okd).trans htd) hne⟩
          · rcases hdv with rfl | rfl
            · exact absurd e (rel_not_g k1 _ _ _)
            · injection e with e1
              rw [← e1]; exact okd
        | false =>
          have htd : a.tmps.getD d undef ≠ .bool want := fun e => by have := hxw.2 e; cases this
          rw [if_neg (fun e => htd (hwant.1 e))]
          obtain ⟨hdv, hrun⟩ := hfalse rfl
          have k2 := hI.mem
          rw [hMB _ (hrun _ hMA)] at k2
          refine after hle hch k2 (.refl _ _) (.refl _ _) hl (fun tmps' ht => ?_) (fun d' want' u e => ?_)
          · rcases hdv with rfl | ⟨v, rfl⟩
            · exact RelE.of (.u _)
            · exact ⟨fun e => absurd ((ht d okd).symm.trans e) htd, fun _ => rfl⟩
          · rcases hdv with rfl | ⟨v, rfl⟩
            · cases e
            · injection e with e1
              rw [← e1]; exact okd
    -- not of the chain: the count stays
    have same : isCh C o = false → ∀ s o', nth all s = some o' → isCh C o' = true → ((s = i ∨ Li listed s) ↔ cnt C all s < k) := by
      intro hc s o' hs' hc'
      rw [← hI.ch s o' hs' hc']
      constructor
      · rintro (rfl | e)
        · rw [ho] at hs'
          injection hs' with hs'
          subst hs'
          rw [hc] at hc'
          cases hc'
        · exact e
      · exact .inr
    cases hk : kind C o.op with
    | free =>
      have hc : isCh C o = false := by simp only [isCh, hk]
      exact run k _ _ (hsf.free hk) trivial (fun h' e => e) hI.le (same hc)
    | read =>
      have hc : isCh C o = false := by simp only [isCh, hk]
      refine run k _ _ (hsf.read hk) ?_ (fun h' e => e) hI.le (same hc)
      have hb1 : hb (cnt C all i) = hb k := by
        -- what is told between the two is no bar
        have nobar : ∀ s o', nth all s = some o' → isCh C o' = true → ((Li listed s ∧ i < s) ∨ (¬ Li listed s ∧ s < i)) → barB C A s 0 all = false := by
          intro s o' hs' hc' hor
          cases hbar : barB C A s 0 all with
          | false => rfl
          | true =>
            exfalso
            obtain ⟨As, hsfs⟩ := hK.sf s o' hs'
            have := bar_spec all 0 hbar i o ho (by rw [hk]; decide)
            rw [Nat.zero_add, hsf.at_, hsfs.at_] at this
            simp only [Option.getD_some] at this
            rcases hor with ⟨hl, hlt⟩ | ⟨hl, hlt⟩
            · rcases this with e | e | e
              · omega
              · have := bits_lt hsf.lt e; omega
              · exact hun' (hK.anc s As hsfs.at_ (Li listed) hI.shut o' hs' (hI.shut s o' hs' hl) i e)
            · rcases this with e | e | e
              · omega
              · exact hl (ancL s e)
              · have := bits_lt hsfs.lt e; omega
        rcases Nat.le_total (cnt C all i) k with h | h
        · have := hb_eq hK (c := cnt C all i) (k - cnt C all i) (by have := hI.le; omega) (fun s o' hs' hc' l1 l2 => nobar s o' hs' hc' (.inl ⟨(hI.ch s o' hs' hc').2 (by omega), by
            rcases Nat.lt_trichotomy i s with q | q | q
            · exact q
            · subst q
              rw [ho] at hs'
              injection hs' with hs'
              subst hs'
              rw [hc] at hc'
              cases hc'
            · have := cnt_lt hs' hc' q; omega⟩))
          rw [show cnt C all i + (k - cnt C all i) = k by omega] at this
          exact this.symm
        · have := hb_eq hK (c := k) (cnt C all i - k) (by have := cnt_mono (C := C) (all := all) (i := i) (j := all.length) (by omega); omega) (fun s o' hs' hc' l1 l2 => nobar s o' hs' hc' (.inr ⟨fun e => by have := (hI.ch s o' hs' hc').1 e; omega, by
            rcases Nat.lt_or_ge s i with q | q
            · exact q
            · have := cnt_mono (C := C) (all := all) q; omega⟩))
          rw [show k + (cnt C all i - k) = cnt C all i by omega] at this
          exact this
      rw [hb1]
      exact hK.pre k hI.le
    | chain =>
      have hc : isCh C o = true := by simp only [isCh, hk]
      obtain ⟨hf, hprev, _⟩ := hsf.chain hc
      have hki : k = cnt C all i := by
        have h5 : ¬ cnt C all i < k := fun e => hun' ((hI.ch i o ho hc).2 e)
        rcases hprev with e | ⟨p, op, hp, hcp, he, hb⟩
        · omega
        · have := (hI.ch p op hp hcp).1 (ancL p hb)
          omega
      subst hki
      refine run (cnt C all i + 1) _ _ hf rfl (fun h' e => e) ?_ ?_
      · have := cnt_mono (C := C) (all := all) (i := i + 1) (j := all.length) hilt
        rw [cnt_ch ho hc] at this
        exact this
      · intro s o' hs' hc'
        have := hI.ch s o' hs' hc'
        constructor
        · rintro (rfl | e)
          · omega
          · have := this.1 e; omega
        · intro e
          rcases Nat.lt_or_ge (cnt C all s) (cnt C all i) with q | q
          · exact .inr (this.2 q)
          · exact .inl (cnt_inj hs' hc' ho hc (by omega))
end
end Go.Pv
