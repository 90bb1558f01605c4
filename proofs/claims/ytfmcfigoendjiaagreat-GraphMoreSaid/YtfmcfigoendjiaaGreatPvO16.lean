/- Layer 16, plainly: the order of entries. -/
import Derived.Test.YtfmcfigoendjiaaGreatPvI16
namespace Go.Pv.L16
open Go Go.Pv Go.Proofs
set_option linter.all false
set_option linter.constructorNameAsVariable false
set_option linter.unusedSectionVars false
set_option linter.unusedVariables false
set_option linter.unusedSimpArgs false

theorem rl_snoc (p : Nat → Bool) {a m : Nat} (h : a ≤ m) : rl p a (m + 1) = rl p a m ++ (bif p m then [(m : Int)] else []) := by
  unfold rl
  rw [show m + 1 - a = (m - a) + 1 by omega, List.range'_concat, List.filter_append, List.map_append, Nat.one_mul, show a + (m - a) = m by omega]
  cases h : p m <;> simp [h]

/-! ### where it comes to rest -/
theorem st_snd (R : Nat → List Int) (p : List Int × Bool) (t : Nat) : (st R p t).2 = (p.2 || decide (p.1.getD t 0 < ff R p.1 t)) := rfl
theorem sw_snd {n : Nat} {R : Nat → List Int} : ∀ (d m : Nat) (p : List Int × Bool), n - m = d → m ≤ n → p.2 = true → (sw R m n p).2 = true := by
  intro d
  induction d with
  | zero => intro m p h1 h2 h; rw [show m = n by omega, sw_end]; exact h
  | succ d ih =>
    intro m p h1 h2 h
    rw [sw_step R (by omega)]
    exact ih (m + 1) _ (by omega) (by omega) (by rw [st_snd, h]; rfl)
theorem sw_rest {n : Nat} {R : Nat → List Int} {o : List Int} (ho : o.length = n) (hg : Gr n R o) : ∀ (d m : Nat), n - m = d → m ≤ n → (sw R m n (o, false)).2 = false → (sw R m n (o, false)).1 = o ∧ ∀ t, m ≤ t → t < n → o.getD t 0 = ff R o t := by
  intro d
  induction d with
  | zero => intro m h1 h2 h; rw [show m = n by omega, sw_end]; exact ⟨rfl, fun t h3 h4 => by omega⟩
  | succ d ih =>
    intro m h1 h2 h
    have hm : m < n := by omega
    rw [sw_step R hm] at h ⊢
    cases hb : decide (o.getD m 0 < ff R o m) with
    | true =>
      have : (st R (o, false) m).2 = true := by rw [st_snd]; show (false || decide (o.getD m 0 < ff R o m)) = true; rw [hb]; rfl
      rw [sw_snd d (m + 1) _ (by omega) (by omega) this] at h
      cases h
    | false =>
      have hb' := of_decide_eq_false hb
      have he : o.getD m 0 = ff R o m := by have := hg m hm; omega
      have hs : o.set m (ff R o m) = o := by
        rw [← he, List.getD_eq_getElem?_getD, List.getElem?_eq_getElem (by omega)]
        exact List.set_getElem_self (by omega)
      have e : st R (o, false) m = (o, false) := by
        unfold st
        dsimp only
        rw [hs, hb]; rfl
      rw [e] at h ⊢
      obtain ⟨g1, g2⟩ := ih (m + 1) (by omega) (by omega) h
      refine ⟨g1, fun t h3 h4 => ?_⟩
      by_cases h5 : t = m
      · rw [h5]; exact he
      · exact g2 t (by omega) h4
theorem dep_some {n : Nat} {R : Nat → List Int} (hR : ROk n R) : ∀ (r : Nat) {B : Nat} {o o' : List Int}, OOk n B o → Gr n R o → dep R n r o = some o' → (∃ B', OOk n B' o') ∧ ∀ t, t < n → o'.getD t 0 = ff R o' t := by
  intro r
  induction r with
  | zero => intro B o o' ho hg h; cases h
  | succ r ih =>
    intro B o o' ho hg h
    unfold dep at h
    cases hb : (sw R 0 n (o, false)).2 with
    | true =>
      rw [hb] at h
      exact ih (sw_ok hR n 0 (p := (o, false)) (by omega) (by omega) ho) (sw_gr hR n 0 (p := (o, false)) (by omega) (by omega) ho hg) h
    | false =>
      rw [hb] at h
      obtain ⟨g1, g2⟩ := sw_rest ho.1 hg n 0 (by omega) (by omega) hb
      rw [g1] at h
      injection h with h
      subst h
      exact ⟨⟨B, ho⟩, fun t ht => g2 t (by omega) ht⟩

/-- What is known of depths that there are. -/
theorem depths_ok {l : List Ent} (h : (depthsB l).2 = 0) : rightE l = true ∧ (depthsB l).1.length = l.length ∧ (∀ t, t < l.length → (depthsB l).1.getD t 0 = ff (readsOf l) (depthsB l).1 t ∧ 1 ≤ (depthsB l).1.getD t 0 ∧ (depthsB l).1.getD t 0 ≤ 3) ∧ dep (readsOf l) l.length (l.length + 1) (List.replicate l.length 0) = some (depthsB l).1 := by
  cases hr : rightE l with
  | false => unfold depthsB at h; rw [hr] at h; cases h
  | true =>
    have ho : OOk l.length 0 (List.replicate l.length 0) := ⟨by simp, fun t ht => by rw [List.getD_eq_getElem?_getD, List.getElem?_replicate, if_pos ht]; simp⟩
    rw [depthsB_right hr] at h ⊢
    cases hd : dep (readsOf l) l.length (l.length + 1) (List.replicate l.length 0) with
    | none => rw [hd] at h; cases h
    | some o =>
      rw [hd] at h
      obtain ⟨⟨B, g1⟩, g2⟩ := dep_some (reads_ok l) _ ho (gr_zero _ _) hd
      have hdeep : deepB o = false := by
        cases hb : deepB o with
        | false => rfl
        | true => rw [show resD (some o) = bif deepB o then ([], 2) else (o, 0) from rfl, hb] at h; cases h
      rw [show resD (some o) = bif deepB o then ([], 2) else (o, 0) from rfl, hdeep]
      refine ⟨rfl, g1.1, fun t ht => ⟨g2 t ht, ?_, ?_⟩, rfl⟩
      · show 1 ≤ o.getD t 0
        rw [g2 t ht]; exact (ff_bound (reads_ok l) g1 t).1
      · show o.getD t 0 ≤ 3
        unfold deepB at hdeep
        rw [List.any_eq_false] at hdeep
        have hlt : t < o.length := by rw [g1.1]; exact ht
        have := hdeep o[t] (List.getElem_mem hlt)
        rw [List.getD_eq_getElem?_getD, List.getElem?_eq_getElem hlt]
        simpa using this
theorem depths_err {l : List Ent} (h : (depthsB l).2 ≠ 0) : (depthsB l).1 = [] ∧ ((depthsB l).2 = 1 ∨ (depthsB l).2 = 2 ∨ (depthsB l).2 = 161) := by
  cases hr : rightE l with
  | false => unfold depthsB; rw [hr]; exact ⟨rfl, .inl rfl⟩
  | true =>
    rw [depthsB_right hr] at h ⊢
    cases hd : dep (readsOf l) l.length (l.length + 1) (List.replicate l.length 0) with
    | none => exact ⟨rfl, .inr (.inr rfl)⟩
    | some o =>
      rw [hd] at h
      rw [show resD (some o) = bif deepB o then ([], 2) else (o, 0) from rfl] at h ⊢
      cases hb : deepB o with
      | true => exact ⟨rfl, .inr (.inl rfl)⟩
      | false => rw [hb] at h; exact absurd rfl h

/-! ### rows by depth -/
def bk (d : List Int) (c : Int) (m : Nat) : List Int := rl (fun t => decide (d.getD t 0 = c)) 0 m
def bks (d : List Int) (m : Nat) : List Int := bk d 1 m ++ (bk d 2 m ++ bk d 3 m)
def orderB (l : List Ent) : List Int := bif decide ((depthsB l).2 = 0) then bks (depthsB l).1 (depthsB l).1.length else []
theorem up_skip (lt : Int → Int → Bool) (x : Int) : ∀ (Q P r : List Int), (∀ s, s ∈ Q → lt x s = true) → up lt (Q ++ P) x r = up lt P x (Q.reverse ++ r)
  | [], P, r, _ => rfl
  | s :: Q, P, r, h => by
    rw [List.cons_append, show up lt (s :: (Q ++ P)) x r = (bif lt x s then up lt (Q ++ P) x (s :: r) else (s :: (Q ++ P)).reverse ++ x :: r) from rfl, h s (List.mem_cons_self ..)]
    simp only [cond_true]
    rw [up_skip lt x Q P (s :: r) fun z hz => h z (List.mem_cons_of_mem _ hz)]
    simp
theorem up_stop (lt : Int → Int → Bool) (x : Int) : ∀ (P r : List Int), (∀ s, s ∈ P → lt x s = false) → up lt P x r = P.reverse ++ x :: r
  | [], r, _ => rfl
  | y :: P, r, h => by
    unfold up
    rw [h y (List.mem_cons_self ..)]
    rfl
theorem up_put (lt : Int → Int → Bool) (x : Int) (P S : List Int) (h1 : ∀ s, s ∈ P → lt x s = false) (h2 : ∀ s, s ∈ S → lt x s = true) : up lt (P ++ S).reverse x [] = P ++ x :: S := by
  rw [List.reverse_append, up_skip lt x _ _ _ fun s hs => h2 s (List.mem_reverse.1 hs), up_stop lt x _ _ fun s hs => h1 s (List.mem_reverse.1 hs)]
  simp
theorem mem_bk {d : List Int} {c : Int} {m : Nat} {x : Int} (h : x ∈ bk d c m) : d.getD x.toNat 0 = c := by
  obtain ⟨i, rfl, _, _, h⟩ := mem_rl.1 h
  exact of_decide_eq_true h
theorem ltD_bk {d : List Int} {c : Int} {m : Nat} {x s : Int} (h : s ∈ bk d c m) : ltD d x s = decide (d.getD x.toNat 0 < c) := by
  unfold ltD
  rw [mem_bk h]
theorem bk_step (d : List Int) (c : Int) (m : Nat) : bk d c (m + 1) = bk d c m ++ (bif decide (d.getD m 0 = c) then [(m : Int)] else []) := rl_snoc _ (Nat.zero_le _)
theorem up_bks {d : List Int} {m : Nat} (h : 1 ≤ d.getD m 0 ∧ d.getD m 0 ≤ 3) : up (ltD d) (bks d m).reverse (m : Int) [] = bks d (m + 1) := by
  unfold bks
  rw [bk_step, bk_step, bk_step]
  have lt : ∀ {c : Int} {s : Int}, s ∈ bk d c m → ltD d (m : Int) s = decide (d.getD m 0 < c) := fun hs => by rw [ltD_bk hs, Int.toNat_natCast]
  generalize hv : d.getD m 0 = v at h lt ⊢
  have hc : v = 1 ∨ v = 2 ∨ v = 3 := by omega
  rcases hc with rfl | rfl | rfl
  · rw [up_put (ltD d) (m : Int) (bk d 1 m) (bk d 2 m ++ bk d 3 m) (fun s hs => lt hs) fun s hs => by
      rcases List.mem_append.1 hs with hs | hs <;> exact lt hs]
    simp
  · rw [← List.append_assoc, up_put (ltD d) (m : Int) (bk d 1 m ++ bk d 2 m) (bk d 3 m) (fun s hs => by
      rcases List.mem_append.1 hs with hs | hs <;> exact lt hs) fun s hs => lt hs]
    simp
  · have := up_put (ltD d) (m : Int) (bk d 1 m ++ (bk d 2 m ++ bk d 3 m)) [] (fun s hs => by
      rcases List.mem_append.1 hs with hs | hs
      · exact lt hs
      · rcases List.mem_append.1 hs with hs | hs <;> exact lt hs) fun s hs => by cases hs
    rw [List.append_nil] at this
    rw [this]
    simp
theorem iso_bks {d : List Int} {n : Nat} (h : ∀ t, t < n → 1 ≤ d.getD t 0 ∧ d.getD t 0 ≤ 3) : ∀ (e m : Nat), n - m = e → m ≤ n → iso (ltD d) (bks d m) (rl (fun _ => true) m n) = bks d n := by
  intro e
  induction e with
  | zero => intro m h1 h2; rw [show m = n by omega, rl_end]; rfl
  | succ e ih =>
    intro m h1 h2
    rw [rl_step _ (show m < n by omega)]
    show iso (ltD d) (up (ltD d) (bks d m).reverse (m : Int) []) _ = _
    rw [up_bks (h m (by omega))]
    exact ih (m + 1) (by omega) (by omega)

theorem depths_len {l : List Ent} : (depthsB l).1.length ≤ 8 := by
  by_cases h : (depthsB l).2 = 0
  · obtain ⟨h1, h2, _⟩ := depths_ok h
    have := rightE_len h1
    omega
  · rw [(depths_err h).1]; simp

section
variable {k : Nat}
theorem E15_0_spec (d : List Int) (n : Nat) (hn : n ≤ 1000) : ∀ (e m j : Nat) (out : List Int), n - m = e → m ≤ n → e < j → out.length ≤ m → E15_0 k j ((d, ()), out, (n : Int), (m : Int), ()) = some (Sum.inl ((d, ()), out ++ rl (fun _ => true) m n, ())) := by
  intro e
  induction e with
  | zero =>
    intro m j out h1 h2 h3 h4
    have : m = n := by omega
    subst this
    match j, h3 with
    | j + 1, _ => rw [E15_0_eq, nlt_nat, rl_end, List.append_nil]; rfl
  | succ e ih =>
    intro m j out h1 h2 h3 h4
    match j, h3 with
    | j + 1, h3 =>
      have e2 : decide ((out.length + [(m : Int)].length) * (7 + 1) ≤ 140737488355328) = true := decide_eq_true (by simp; omega)
      rw [E15_0_eq, lt_nat (by omega), wrap_nat (by omega), rl_step _ (show m < n by omega)]
      simp only [cond_true]
      show (bif decide ((out.length + [(m : Int)].length) * (7 + 1) ≤ 140737488355328) then _ else none) = _
      rw [e2]
      have := ih (m + 1) j (out ++ [(m : Int)]) (by omega) (by omega) (by omega) (by simp; omega)
      rw [List.append_assoc] at this
      exact this
theorem F15_spec {l : List Ent} (hl : LOk k l) (hk : 2000 < k) : F15 k (l, ()) = some ((orderB l, ()), ()) := by
  have h8 := depths_len (l := l)
  rw [F15_eq]
  refine ob (F10_spec hl hk) ?_
  dsimp only
  have e := E15_0_spec (k := k) (depthsB l).1 (depthsB l).1.length (by omega) (depthsB l).1.length 0 k [] (by omega) (by omega) (by omega) (by simp)
  refine ob e ?_
  dsimp only
  rw [List.nil_append]
  have hm : ∀ y, y ∈ rl (fun _ => true) 0 (depthsB l).1.length → 0 ≤ y ∧ y < ((depthsB l).1.length : Int) := fun y hy => by
    obtain ⟨i, rfl, _, h, _⟩ := mem_rl.1 hy
    omega
  have hlen := rl_len (fun _ => true) 0 (depthsB l).1.length
  refine ob (F31_spec (k := k) (by omega) hk hm) ?_
  dsimp only
  have : iso (ltD (depthsB l).1) [] (rl (fun _ => true) 0 (depthsB l).1.length) = orderB l := by
    unfold orderB
    by_cases h : (depthsB l).2 = 0
    · obtain ⟨h1, h2, h3, _⟩ := depths_ok h
      rw [decide_eq_true h]
      have := iso_bks (d := (depthsB l).1) (n := (depthsB l).1.length) (fun t ht => (h3 t (by omega)).2) (depthsB l).1.length 0 (by omega) (by omega)
      exact this
    · rw [decide_eq_false h, (depths_err h).1]; rfl
  rw [this]

theorem E16_0_0_spec (d : List Int) (hn : d.length ≤ 8) (er c : Int) : ∀ (e m j : Nat) (out : List Int), d.length - m = e → m ≤ d.length → e < j → out.length ≤ 100 + m → E16_0_0 k j (out, d, er, c, (m : Int), ()) = some (Sum.inl (out ++ rl (fun t => decide (d.getD t 0 = c)) m d.length, d, er, c, ())) := by
  intro e
  induction e with
  | zero =>
    intro m j out h1 h2 h3 h4
    have : m = d.length := by omega
    subst this
    match j, h3 with
    | j + 1, _ => rw [E16_0_0_eq, nlt_nat, rl_end, List.append_nil]; rfl
  | succ e ih =>
    intro m j out h1 h2 h3 h4
    match j, h3 with
    | j + 1, h3 =>
      have hm : m < d.length := by omega
      have er1 : rd (Ty.i IntKind.i64) d (m : Int) = d.getD m 0 := rd_nat (e := Ty.i IntKind.i64) d m
      rw [E16_0_0_eq, lt_nat hm, inb_nat hm, wrap_nat (by omega), er1, rl_step _ hm]
      simp only [cond_true]
      cases decide (d.getD m 0 = c) with
      | false => exact ih (m + 1) j out (by omega) (by omega) (by omega) (by omega)
      | true =>
        have e2 : decide ((out.length + [(m : Int)].length) * (7 + 1) ≤ 140737488355328) = true := decide_eq_true (by simp; omega)
        have := ih (m + 1) j (out ++ [(m : Int)]) (by omega) (by omega) (by omega) (by simp; omega)
        rw [List.append_assoc] at this
        show (bif decide ((out.length + [(m : Int)].length) * (7 + 1) ≤ 140737488355328) then _ else none) = _
        rw [e2]
        exact this
theorem F16_spec {l : List Ent} (hl : LOk k l) (hk : 2000 < k) : F16 k (l, ()) = some ((orderB l, ()), ()) := by
  have h8 := depths_len (l := l)
  rw [F16_eq]
  refine ob (F11_spec hl hk) ?_
  dsimp only
  unfold orderB bks bk
  generalize depthsB l = p at h8 ⊢
  obtain ⟨d, er⟩ := p
  dsimp only at h8 ⊢
  have hb : ∀ c : Int, (rl (fun t => decide (d.getD t 0 = c)) 0 d.length).length ≤ 8 := fun c => by have := rl_len (fun t => decide (d.getD t 0 = c)) 0 d.length; omega
  have b1 := hb 1
  have b2 := hb 2
  obtain ⟨j, rfl⟩ : ∃ j, k = j + 1 + 1 + 1 + 1 := ⟨k - 4, by omega⟩
  cases he : decide (er = 0) with
  | false =>
    have e : E16_0 (j + 1 + 1 + 1 + 1) (j + 1 + 1 + 1 + 1) ([], d, er, 1, ()) = some (Sum.inl ([], ())) := by rw [E16_0_eq, he]; rfl
    exact ob e rfl
  | true =>
    have e1 := E16_0_0_spec (k := j + 1 + 1 + 1 + 1) d h8 er 1 d.length 0 (j + 1 + 1 + 1 + 1) [] (by omega) (by omega) (by omega) (by simp)
    have e2 := E16_0_0_spec (k := j + 1 + 1 + 1 + 1) d h8 er 2 d.length 0 (j + 1 + 1 + 1 + 1) ([] ++ rl (fun t => decide (d.getD t 0 = 1)) 0 d.length) (by omega) (by omega) (by omega) (by rw [List.nil_append]; omega)
    have e3 := E16_0_0_spec (k := j + 1 + 1 + 1 + 1) d h8 er 3 d.length 0 (j + 1 + 1 + 1 + 1) (([] ++ rl (fun t => decide (d.getD t 0 = 1)) 0 d.length) ++ rl (fun t => decide (d.getD t 0 = 2)) 0 d.length) (by omega) (by omega) (by omega) (by rw [List.nil_append, List.length_append]; omega)
    have e : E16_0 (j + 1 + 1 + 1 + 1) (j + 1 + 1 + 1 + 1) ([], d, er, 1, ()) = some (Sum.inl (rl (fun t => decide (d.getD t 0 = 1)) 0 d.length ++ (rl (fun t => decide (d.getD t 0 = 2)) 0 d.length ++ rl (fun t => decide (d.getD t 0 = 3)) 0 d.length), ())) := by
      rw [E16_0_eq, he, show decide ((1 : Int) ≤ 3) = true from rfl]
      simp only [cond_true]
      refine ob e1 ?_
      show E16_0 (j + 1 + 1 + 1 + 1) (j + 1 + 1 + 1) (_, d, er, 2, ()) = _
      rw [E16_0_eq, he, show decide ((2 : Int) ≤ 3) = true from rfl]
      simp only [cond_true]
      refine ob e2 ?_
      show E16_0 (j + 1 + 1 + 1 + 1) (j + 1 + 1) (_, d, er, 3, ()) = _
      rw [E16_0_eq, he, show decide ((3 : Int) ≤ 3) = true from rfl]
      simp only [cond_true]
      refine ob e3 ?_
      show E16_0 (j + 1 + 1 + 1 + 1) (j + 1) (_, d, er, 4, ()) = _
      rw [E16_0_eq, he]
      simp
    exact ob e rfl
end
end Go.Pv.L16
