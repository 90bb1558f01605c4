import Derived.Test.YtfmcfigoendjiaaGreatPvPureGraphOrder
/- Layer 16, plainly: rings. -/
namespace Go.Pv.L16
open Go Go.Pv Go.Proofs
set_option linter.all false
set_option linter.constructorNameAsVariable false
set_option linter.unusedSectionVars false
set_option linter.unusedVariables false
set_option linter.unusedSimpArgs false

theorem Rch.trans {R : Nat → List Int} {n a b c : Nat} (h : Rch R n b c) (h' : Rch R n a b) : Rch R n a c := by
  induction h with
  | base hi hb => exact .step hi hb h'
  | step hi ht _ ih => exact .step hi ht ih
/-- How many it reads, by others or not. -/
noncomputable def dn (R : Nat → List Int) (n i : Nat) : Nat := cnt (fun t => rchB R n t i) n
theorem dn_lt {R : Nat → List Int} {n : Nat} (hR : ROk n R) (hac : ∀ i, i < n → ¬ Rch R n i i) {i t : Nat} (hi : i < n) (ht : (t : Int) ∈ R i) : dn R n t + 1 ≤ dn R n i := by
  have htn : t < n := by have := ((hR i).2 _ ht).2; omega
  refine cnt_more (fun u _ hu => rchB_iff.2 (.step hi ht (rchB_iff.1 hu))) htn (rchB_iff.2 (.base hi ht)) ?_
  cases h : rchB R n t t with
  | false => rfl
  | true => exact absurd (rchB_iff.1 h) (hac t htn)
theorem dn_bound {R : Nat → List Int} {n : Nat} (hac : ∀ i, i < n → ¬ Rch R n i i) {i : Nat} (hi : i < n) : dn R n i < n := by
  have h1 : dn R n i ≤ n := cnt_le (fun t => rchB R n t i) n
  refine Nat.lt_of_le_of_ne h1 fun e => ?_
  have := cnt_full (p := fun t => rchB R n t i) (n := n) (Nat.le_of_eq e.symm) i hi
  exact hac i hi (rchB_iff.1 this)

theorem fold_same {o o' : List Int} : ∀ (r : List Int) (a : Int), (∀ t, t ∈ r → o.getD t.toNat 0 = o'.getD t.toNat 0) → r.foldl (mx o) a = r.foldl (mx o') a
  | [], a, _ => rfl
  | t :: r, a, h => by
    rw [List.foldl_cons, List.foldl_cons]
    have e : mx o a t = mx o' a t := by unfold mx; rw [h t (List.mem_cons_self ..)]
    rw [e]
    exact fold_same r _ fun u hu => h u (List.mem_cons_of_mem _ hu)

section
variable {R : Nat → List Int} {n : Nat} (hR : ROk n R) (hac : ∀ i, i < n → ¬ Rch R n i i)
include hR hac
/-- Those that read few are at rest. -/
def Set_ (R : Nat → List Int) (n r : Nat) (o : List Int) : Prop := ∀ i, i < n → dn R n i < r → o.getD i 0 = ff R o i
theorem ff_same {r : Nat} {o o' : List Int} (h : ∀ i, i < n → dn R n i < r → o.getD i 0 = o'.getD i 0) {i : Nat} (hi : i < n) (hd : dn R n i ≤ r) : ff R o i = ff R o' i := by
  refine fold_same _ _ fun t ht => ?_
  obtain ⟨h1, h2⟩ := (hR i).2 t ht
  obtain ⟨u, rfl⟩ : ∃ u : Nat, t = (u : Int) := ⟨t.toNat, by omega⟩
  rw [Int.toNat_natCast]
  exact h u (by omega) (by have := dn_lt hR hac hi ht; omega)
theorem sw_set {r : Nat} {o0 : List Int} (hs : Set_ R n r o0) : ∀ (d m : Nat) (p : List Int × Bool), n - m = d → m ≤ n → p.1.length = n → (∀ i, i < n → dn R n i < r → p.1.getD i 0 = o0.getD i 0) → (∀ i, i < m → dn R n i ≤ r → p.1.getD i 0 = ff R o0 i) →
    (∀ i, i < n → dn R n i < r → (sw R m n p).1.getD i 0 = o0.getD i 0) ∧ (∀ i, i < n → dn R n i ≤ r → (sw R m n p).1.getD i 0 = ff R o0 i) ∧ ((∀ i, i < n → dn R n i < r) → p.2 = false → (sw R m n p).2 = false) := by
  intro d
  induction d with
  | zero =>
    intro m p h1 h2 h3 h4 h5
    have : m = n := by omega
    subst this
    rw [sw_end]
    exact ⟨h4, h5, fun _ h => h⟩
  | succ d ih =>
    intro m p h1 h2 h3 h4 h5
    have hm : m < n := by omega
    rw [sw_step R hm]
    have hg : ∀ t, (st R p m).1.getD t 0 = if t = m then ff R p.1 m else p.1.getD t 0 := fun t => getD_set (by rw [h3]; exact hm) _ _
    obtain ⟨g1, g2, g3⟩ := ih (m + 1) (st R p m) (by omega) (by omega) (by simp [st, h3]) (fun i hi hd => by
        rw [hg]
        split
        · rename_i e; subst e
          rw [ff_same hR hac h4 hi (by omega), ← hs i hi hd]
        · exact h4 i hi hd) (fun i hi hd => by
        rw [hg]
        split
        · rename_i e; subst e
          exact ff_same hR hac h4 hm hd
        · exact h5 i (by omega) hd)
    refine ⟨g1, g2, fun hall hp => g3 hall ?_⟩
    rw [st_snd, hp]
    have : p.1.getD m 0 = ff R p.1 m := by
      rw [h4 m hm (hall m hm), hs m hm (hall m hm)]
      exact (ff_same hR hac h4 hm (by have := hall m hm; omega)).symm
    rw [this]
    simp
theorem dep_rest : ∀ (d r : Nat) (o : List Int), r + d = n + 1 → 1 ≤ d → o.length = n → Set_ R n r o → dep R n d o ≠ none := by
  intro d
  induction d with
  | zero => intro r o h1 h2; omega
  | succ d ih =>
    intro r o h1 h2 h3 hs
    obtain ⟨g1, g2, g3⟩ := sw_set hR hac hs n 0 (o, false) (by omega) (by omega) h3 (fun i _ _ => rfl) (fun i hi => by omega)
    unfold dep
    cases hb : (sw R 0 n (o, false)).2 with
    | false => simp
    | true =>
      simp only [cond_true]
      have hlen : ∀ (q : List Nat) (p : List Int × Bool), (q.foldl (st R) p).1.length = p.1.length := by
        intro q
        induction q with
        | nil => exact fun p => rfl
        | cons t q ih => exact fun p => by rw [List.foldl_cons, ih]; simp [st]
      have hd : 1 ≤ d := by
        rcases Nat.eq_zero_or_pos d with e | e
        · subst e
          have := g3 (fun i hi => by have := dn_bound hac hi; omega) rfl
          rw [hb] at this; cases this
        · exact e
      refine ih (r + 1) _ (by omega) hd (by unfold sw; rw [hlen]; exact h3) fun i hi hd => ?_
      rw [g2 i hi (by omega)]
      refine ff_same hR hac (fun t ht hdt => (g1 t ht hdt).symm) hi (by omega)
end
/-- There is a ring just where it never comes to rest. -/
theorem ring_iff {R : Nat → List Int} {n : Nat} (hR : ROk n R) : dep R n (n + 1) (List.replicate n 0) = none ↔ ∃ i, i < n ∧ Rch R n i i := by
  constructor
  · intro h
    refine Classical.byContradiction fun hc => ?_
    exact dep_rest hR (fun i hi hr => hc ⟨i, hi, hr⟩) (n + 1) 0 (List.replicate n 0) (by omega) (by omega) (by simp) (fun i _ h => by omega) h
  · rintro ⟨i, hi, hr⟩
    cases hd : dep R n (n + 1) (List.replicate n 0) with
    | none => rfl
    | some o =>
      have ho : OOk n 0 (List.replicate n 0) := ⟨by simp, fun t ht => by rw [List.getD_eq_getElem?_getD, List.getElem?_replicate, if_pos ht]; simp⟩
      obtain ⟨_, hf⟩ := dep_some hR _ ho (gr_zero _ _) hd
      have key : ∀ {a c : Nat}, Rch R n a c → o.getD a 0 + 1 ≤ o.getD c 0 := by
        intro a c h
        induction h with
        | base hi ha =>
          have := (fold_le o (R _) 1).2 _ ha
          rw [Int.toNat_natCast] at this
          rw [hf _ hi]; exact this
        | step hi ht _ ih =>
          have := (fold_le o (R _) 1).2 _ ht
          rw [Int.toNat_natCast] at this
          rw [hf _ hi]
          unfold ff
          omega
      have := key hr
      omega
end Go.Pv.L16

/- Layer 16: GraphRing, plainly. -/
namespace Go.Pv.L16
open Go Go.Pv Go.Proofs
set_option linter.all false
set_option linter.constructorNameAsVariable false
set_option linter.unusedSectionVars false
set_option linter.unusedVariables false
set_option linter.unusedSimpArgs false

theorem ring_err {l : List Ent} (hr : rightE l = true) : decide ((depthsB l).2 = 161) = true ↔ ∃ i, i < l.length ∧ Rch (readsOf l) l.length i i := by
  rw [← ring_iff (reads_ok l), depthsB_right hr]
  cases hd : dep (readsOf l) l.length (l.length + 1) (List.replicate l.length 0) with
  | none => exact ⟨fun _ => rfl, fun _ => rfl⟩
  | some o =>
    rw [show resD (some o) = bif deepB o then ([], 2) else (o, 0) from rfl]
    cases deepB o with
    | true => exact ⟨fun h => (by cases h), fun h => (by cases h)⟩
    | false => exact ⟨fun h => (by cases h), fun h => (by cases h)⟩
theorem readersB_eq {l : List Ent} (hr : rightE l = true) {i : Nat} (hi : i < l.length) : readersB l (i : Int) = rl (rchB (readsOf l) l.length i) 0 l.length := by
  unfold readersB
  rw [hr, lt_nat hi, decide_eq_true (show (0 : Int) ≤ (i : Int) by omega), Int.toNat_natCast]; rfl
theorem mem_readers {l : List Ent} (hr : rightE l = true) {i : Nat} (hi : i < l.length) {m : Nat} : (m : Int) ∈ readersB l (i : Int) ↔ Rch (readsOf l) l.length i m := by
  rw [readersB_eq hr hi, mem_rl]
  constructor
  · rintro ⟨j, h1, _, _, h2⟩
    have : m = j := by omega
    subst this
    exact rchB_iff.1 h2
  · exact fun h => ⟨m, rfl, Nat.zero_le _, h.lt, rchB_iff.2 h⟩
theorem plc_ge {r : List Int} {n : Int} : decide (0 ≤ plc r n) = conB r n := by
  rw [Bool.eq_iff_iff, decide_eq_true_eq, conB_iff]
  constructor
  · exact fun h => Classical.byContradiction fun hc => by have := plc_neg.2 hc; omega
  · exact fun h => ((plc_pos r n).1 h).1
section
variable {k : Nat} {l : List Ent} (hl : LOk k l) (hr : rightE l = true) (hk : 2000 < k)
include hl hr hk
theorem E7_0_spec (up : Bool) (er : Int) : ∀ (d i j : Nat) (b : Bool), l.length - i = d → i ≤ l.length → d < j →
    E7_0 k j (l, up, er, b, (i : Int), ()) = some (Sum.inl (up, er, b || anyR (fun t => rchB (readsOf l) l.length t t) i l.length, ())) := by
  have h8 := rightE_len hr
  intro d
  induction d with
  | zero =>
    intro i j b h1 h2 h3
    have : i = l.length := by omega
    subst this
    match j, h3 with
    | j + 1, _ => rw [E7_0_eq, nlt_nat, anyR_end, Bool.or_false]; rfl
  | succ d ih =>
    intro i j b h1 h2 h3
    match j, h3 with
    | j + 1, h3 =>
      have hi : i < l.length := by omega
      rw [E7_0_eq, lt_nat hi, wrap_nat (by omega), anyR_step _ hi]
      simp only [cond_true]
      cases b with
      | true =>
        have := ih (i + 1) j true (by omega) (by omega) (by omega)
        simp only [Bool.true_or] at this ⊢
        exact this
      | false =>
        simp only [Bool.not_false, cond_true, cond_false, Bool.false_or]
        refine ob (F19_spec hl hk (i : Int)) ?_
        have h8' := readersB_len (l := l) (x := (i : Int))
        have f := F21_spec (k := k) (x := readersB l (i : Int)) (by omega) (i : Int)
        refine ob f ?_
        dsimp only
        rw [plc_ge]
        have hc : conB (readersB l (i : Int)) (i : Int) = rchB (readsOf l) l.length i i := by
          rw [Bool.eq_iff_iff, conB_iff, mem_readers hr hi, rchB_iff]
        rw [hc]
        exact ih (i + 1) j _ (by omega) (by omega) (by omega)
end
theorem PureGraphRing (x : shsDen (argSh [T22])) (hok : okAll [T22] x) : ∃ k z, F7 k x = some ((true, ()), z) := by
  obtain ⟨l, u⟩ := x
  obtain ⟨ok1, _⟩ := hok
  have ok1 : T22.ok l := ok1
  obtain ⟨N, hT⟩ := lt_of ok1
  refine ⟨140737488351232 + 3000 + N, (), ?_⟩
  generalize hkk : 140737488351232 + 3000 + N = k
  have hk : 140737488351232 < k := by omega
  have hl := LT.ok hk hT
  obtain ⟨b, h9, _⟩ := F9_total hk (by omega) hT
  show F7 k (l, ()) = _
  rw [F7_eq]
  refine ob (head_at hk) ?_
  refine ob h9 ?_
  dsimp only
  cases b with
  | true => rfl
  | false =>
    simp only [Bool.not_false, cond_true, cond_false]
    refine ob (F13_spec hl) ?_
    dsimp only
    cases hr : rightE l with
    | false => rfl
    | true =>
      simp only [Bool.not_true, cond_false]
      refine ob (F10_spec hl (by omega)) ?_
      dsimp only
      have e := E7_0_spec hl hr (by omega) true (depthsB l).2 l.length 0 k false (by omega) (by omega) (by have := hl.2.1; omega)
      have e : E7_0 k k (l, true, (depthsB l).2, false, 0, ()) = _ := e
      refine ob e ?_
      dsimp only
      have : (false || anyR (fun t => rchB (readsOf l) l.length t t) 0 l.length) = decide ((depthsB l).2 = 161) := by
        rw [Bool.false_or, Bool.eq_iff_iff, ring_err hr, anyR_iff]
        constructor
        · rintro ⟨m, _, h1, h2⟩; exact ⟨m, h1, rchB_iff.1 h2⟩
        · rintro ⟨m, h1, h2⟩; exact ⟨m, Nat.zero_le _, h1, rchB_iff.2 h2⟩
      rw [this]
      simp only [cond_true, decide_true]
      rfl
end Go.Pv.L16

