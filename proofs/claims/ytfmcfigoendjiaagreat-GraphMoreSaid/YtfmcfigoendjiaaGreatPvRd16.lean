/- Layer 16, plainly: the document's readers. -/
import Derived.Test.YtfmcfigoendjiaaGreatPvRc16
namespace Go.Pv.L16
open Go Go.Pv Go.Proofs
set_option linter.all false
set_option linter.constructorNameAsVariable false
set_option linter.unusedSectionVars false
set_option linter.unusedVariables false
set_option linter.unusedSimpArgs false

def fl (s : List Bool) (i : Nat) : Bool := s.getD i false
def us (x : Int) (i : Nat) (s : List Bool) (t : Int) : List Bool := s.set i ((fl s i || decide (t = x)) || fl s t.toNat)
def row (R : Nat → List Int) (x : Int) (s : List Bool) (i : Nat) : List Bool := (R i).foldl (us x i) s
def swB (R : Nat → List Int) (x : Int) (m n : Nat) (s : List Bool) : List Bool := (List.range' m (n - m)).foldl (row R x) s
def rdB (R : Nat → List Int) (x : Int) (n : Nat) : Nat → List Bool → List Bool
  | 0, s => s
  | d + 1, s => rdB R x n d (swB R x 0 n s)
theorem swB_end (R : Nat → List Int) (x : Int) (n : Nat) (s : List Bool) : swB R x n n s = s := by simp [swB]
theorem swB_step (R : Nat → List Int) (x : Int) {m n : Nat} (h : m < n) (s : List Bool) : swB R x m n s = swB R x (m + 1) n (row R x s m) := by
  unfold swB
  rw [show n - m = (n - (m + 1)) + 1 by omega, List.range'_succ, List.foldl_cons]
theorem fl_set {s : List Bool} {i : Nat} (h : i < s.length) (v : Bool) (t : Nat) : fl (s.set i v) t = if t = i then v else fl s t := by
  unfold fl
  rw [List.getD_eq_getElem?_getD, List.getElem?_set, List.getD_eq_getElem?_getD]
  by_cases ht : t = i
  · subst ht; rw [if_pos rfl, if_pos h, if_pos rfl]; rfl
  · rw [if_neg (Ne.symm ht), if_neg ht]
theorem us_len (x : Int) (i : Nat) (s : List Bool) (t : Int) : (us x i s t).length = s.length := by simp [us]
theorem us_fl {x : Int} {i : Nat} {s : List Bool} (h : i < s.length) (t : Int) (u : Nat) : fl (us x i s t) u = true ↔ fl s u = true ∨ (u = i ∧ (t = x ∨ fl s t.toNat = true)) := by
  unfold us
  rw [fl_set h]
  by_cases hu : u = i
  · subst hu; simp [or_assoc]
  · simp [hu]

/-- What a way through the rows does: it is longer by nothing, keeps what was, and brings only what can be reached; and what a row asks for is there. -/
structure Goes (R : Nat → List Int) (n a : Nat) (s s' : List Bool) : Prop where
  len : s'.length = s.length
  up : ∀ u, fl s u = true → fl s' u = true
  sound : (∀ u, fl s u = true → Rch R n a u) → ∀ u, fl s' u = true → Rch R n a u
theorem Goes.refl {R : Nat → List Int} {n a : Nat} (s : List Bool) : Goes R n a s s := ⟨rfl, fun _ h => h, fun h => h⟩
theorem Goes.trans {R : Nat → List Int} {n a : Nat} {s s' s'' : List Bool} (h : Goes R n a s s') (h' : Goes R n a s' s'') : Goes R n a s s'' :=
  ⟨h'.len.trans h.len, fun u hu => h'.up u (h.up u hu), fun hs => h'.sound (h.sound hs)⟩

section
variable {R : Nat → List Int} {n a : Nat} (hR : ROk n R)
include hR
theorem row_goes {i : Nat} (hi : i < n) : ∀ (r : List Int) (s : List Bool), (∀ t, t ∈ r → t ∈ R i) → s.length = n → Goes R n a s (r.foldl (us (a : Int) i) s) ∧ ∀ t : Nat, (t : Int) ∈ r → (t = a ∨ fl s t = true) → fl (r.foldl (us (a : Int) i) s) i = true
  | [], s, _, _ => ⟨.refl s, fun t h => by cases h⟩
  | t :: r, s, hr, hs => by
    have ht := hr t (List.mem_cons_self ..)
    have htn := (hR i).2 t ht
    have hi' : i < s.length := by rw [hs]; exact hi
    have g : Goes R n a s (us (a : Int) i s t) := ⟨us_len _ _ _ _, fun u hu => (us_fl hi' t u).2 (.inl hu), fun h u hu => by
      rcases (us_fl hi' t u).1 hu with h1 | ⟨rfl, h1 | h1⟩
      · exact h u h1
      · subst h1; exact .base hi ht
      · refine .step (t := t.toNat) hi ?_ (h _ h1)
        rwa [Int.toNat_of_nonneg htn.1]⟩
    obtain ⟨k1, k2⟩ := row_goes hi r (us (a : Int) i s t) (fun u hu => hr u (List.mem_cons_of_mem _ hu)) (by rw [us_len]; exact hs)
    refine ⟨g.trans k1, fun u hu h => ?_⟩
    rcases List.mem_cons.1 hu with rfl | hu
    · refine k1.up i ((us_fl hi' _ i).2 (.inr ⟨rfl, ?_⟩))
      rcases h with rfl | h
      · exact .inl rfl
      · exact .inr h
    · exact k2 u hu (h.imp id fun h => g.up u h)
theorem sw_goes : ∀ (d m : Nat) (s : List Bool), n - m = d → m ≤ n → s.length = n → Goes R n a s (swB R (a : Int) m n s) ∧ ∀ i, m ≤ i → i < n → ∀ t : Nat, (t : Int) ∈ R i → (t = a ∨ fl s t = true) → fl (swB R (a : Int) m n s) i = true := by
  intro d
  induction d with
  | zero =>
    intro m s h1 h2 hs
    rw [show m = n by omega, swB_end]
    exact ⟨.refl s, fun i h3 h4 => by omega⟩
  | succ d ih =>
    intro m s h1 h2 hs
    have hm : m < n := by omega
    obtain ⟨k1, k2⟩ := row_goes (a := a) hR hm (R m) s (fun t ht => ht) hs
    have k1 : Goes R n a s (row R (a : Int) s m) := k1
    have k2 : ∀ t : Nat, (t : Int) ∈ R m → (t = a ∨ fl s t = true) → fl (row R (a : Int) s m) m = true := k2
    rw [swB_step R _ hm]
    obtain ⟨g1, g2⟩ := ih (m + 1) (row R (a : Int) s m) (by omega) (by omega) (by rw [k1.len]; exact hs)
    refine ⟨k1.trans g1, fun i h3 h4 t ht h => ?_⟩
    by_cases e : i = m
    · subst e; exact g1.up _ (k2 t ht h)
    · exact g2 i (by omega) h4 t ht (h.imp id fun h => k1.up t h)
omit hR in
theorem front {s : List Bool} : ∀ {i : Nat}, Rch R n a i → fl s i = false → ∃ m, m < n ∧ fl s m = false ∧ Rch R n a m ∧ ∃ t : Nat, (t : Int) ∈ R m ∧ (t = a ∨ fl s t = true) := by
  intro i h
  induction h with
  | base hi ha => exact fun hf => ⟨_, hi, hf, .base hi ha, a, ha, .inl rfl⟩
  | @step i t hi ht hr ih =>
    intro hf
    cases hs : fl s t with
    | true => exact ⟨i, hi, hf, .step hi ht hr, t, ht, .inr hs⟩
    | false => exact ih hs
theorem rd_goes : ∀ (d r : Nat) (s : List Bool), s.length = n → ((∀ i, Rch R n a i → fl s i = true) ∨ r ≤ cnt (fl s) n) → (∀ u, fl s u = true → Rch R n a u) →
    (rdB R (a : Int) n d s).length = n ∧ (∀ u, fl (rdB R (a : Int) n d s) u = true → Rch R n a u) ∧ ((∀ i, Rch R n a i → fl (rdB R (a : Int) n d s) i = true) ∨ r + d ≤ cnt (fl (rdB R (a : Int) n d s)) n)
  | 0, r, s, hs, h, hq => ⟨hs, hq, h⟩
  | d + 1, r, s, hs, h, hq => by
    obtain ⟨g1, g2⟩ := sw_goes (a := a) hR n 0 s (by omega) (by omega) hs
    have := rd_goes d (r + 1) (swB R (a : Int) 0 n s) (by rw [g1.len]; exact hs) (by
      rcases h with h | h
      · exact .inl fun i hi => g1.up i (h i hi)
      · by_cases hf : ∀ i, Rch R n a i → fl s i = true
        · exact .inl fun i hi => g1.up i (hf i hi)
        · refine .inr ?_
          have : ∃ i, Rch R n a i ∧ fl s i = false := Classical.byContradiction fun hc => hf fun i hi => by
            cases hb : fl s i with
            | true => rfl
            | false => exact absurd ⟨i, hi, hb⟩ hc
          obtain ⟨i, hi, hb⟩ := this
          obtain ⟨m, m1, m2, m3, t, m4, m5⟩ := front (s := s) hi hb
          have := cnt_more (p := fl s) (q := fl (swB R (a : Int) 0 n s)) (n := n) (fun i _ => g1.up i) m1 (g2 m (by omega) m1 t m4 m5) m2
          omega) (g1.sound hq)
    obtain ⟨k1, k2, k3⟩ := this
    exact ⟨k1, k2, k3.imp id fun h => by
      show r + (d + 1) ≤ cnt (fl (rdB R (a : Int) n d (swB R (a : Int) 0 n s))) n
      omega⟩
/-- Behind as many rounds as there are entries: just what can be reached. -/
theorem rd_all : (rdB R (a : Int) n n (List.replicate n false)).length = n ∧ ∀ i, i < n → fl (rdB R (a : Int) n n (List.replicate n false)) i = rchB R n a i := by
  have h0 : ∀ u, fl (List.replicate n false) u = false := fun u => by
    unfold fl
    rw [List.getD_eq_getElem?_getD, List.getElem?_replicate]
    split <;> rfl
  obtain ⟨k1, k2, k3⟩ := rd_goes (a := a) hR n 0 (List.replicate n false) (by simp) (.inr (Nat.zero_le _)) (fun u h => by rw [h0] at h; cases h)
  refine ⟨k1, fun i hi => ?_⟩
  rw [Bool.eq_iff_iff, rchB_iff]
  refine ⟨k2 i, fun h => ?_⟩
  rcases k3 with k3 | k3
  · exact k3 i h
  · exact cnt_full (p := fl (rdB R (a : Int) n n (List.replicate n false))) (by omega) i hi
end

section
variable {k : Nat} {l : List Ent} (hl : LOk k l) (hr : rightE l = true)
include hl hr
theorem E20_0_0_0_spec (x x6 : Int) {i : Nat} (hi : i < l.length) : ∀ (d m j : Nat) (s : List Bool), (readsOf l i).length - m = d → m ≤ (readsOf l i).length → d < j → s.length = l.length →
    E20_0_0_0 k j (l, x, s, x6, (i : Int), readsOf l i, (m : Int), ()) = some (Sum.inl (l, x, ((readsOf l i).drop m).foldl (us x i) s, x6, (i : Int), ())) := by
  have h8 := rightE_len hr
  obtain ⟨hR1, hR2⟩ := reads_ok l i
  generalize readsOf l i = r at hR1 hR2 ⊢
  intro d
  induction d with
  | zero =>
    intro m j s h1 h2 h3 hs
    have : m = r.length := by omega
    subst this
    match j, h3 with
    | j + 1, _ => rw [E20_0_0_0_eq, nlt_nat, List.drop_length]; rfl
  | succ d ih =>
    intro m j s h1 h2 h3 hs
    match j, h3 with
    | j + 1, h3 =>
      have hm : m < r.length := by omega
      have e : rd (Ty.i IntKind.i64) r (m : Int) = r[m] := rd_get hm
      obtain ⟨b1, b2⟩ := hR2 r[m] (List.getElem_mem hm)
      rw [E20_0_0_0_eq, lt_nat hm, inb_nat hm, wrap_nat (by omega), e, List.drop_eq_getElem_cons hm, List.foldl_cons]
      generalize r[m] = t at b1 b2 ⊢
      obtain ⟨u, rfl⟩ : ∃ u : Nat, t = (u : Int) := ⟨t.toNat, by omega⟩
      have e1 : rd Ty.b s (i : Int) = fl s i := rd_nat (e := Ty.b) s i
      have e2 : rd Ty.b s (u : Int) = fl s u := rd_nat (e := Ty.b) s u
      rw [e1, e2, inb_nat (show i < s.length by omega), inb_nat (show u < s.length by omega), Int.toNat_natCast]
      have := ih (m + 1) j (us x i s (u : Int)) (by omega) (by omega) (by omega) (by rw [us_len]; exact hs)
      rw [← this]
      unfold us
      rw [Int.toNat_natCast]
      cases fl s i <;> cases decide ((u : Int) = x) <;> cases fl s u <;> rfl
theorem E20_0_0_spec (x x6 : Int) : ∀ (d m j : Nat) (s : List Bool), l.length - m = d → m ≤ l.length → d < j → s.length = l.length →
    E20_0_0 k j (l, x, s, x6, (m : Int), ()) = some (Sum.inl (l, x, swB (readsOf l) x m l.length s, x6, ())) := by
  have h8 := rightE_len hr
  intro d
  induction d with
  | zero =>
    intro m j s h1 h2 h3 hs
    have : m = l.length := by omega
    subst this
    match j, h3 with
    | j + 1, _ => rw [E20_0_0_eq, nlt_nat, swB_end]; rfl
  | succ d ih =>
    intro m j s h1 h2 h3 hs
    match j, h3 with
    | j + 1, h3 =>
      have hm : m < l.length := by omega
      have hk := hl.2.1
      have ea : readsA l (m : Int) = readsOf l m := by
        unfold readsA
        rw [hr, lt_nat hm, decide_eq_true (show (0 : Int) ≤ (m : Int) by omega), Int.toNat_natCast]; rfl
      have e0 := F18_spec hl (m : Int)
      rw [ea] at e0
      have e := E20_0_0_0_spec hl hr x x6 hm (readsOf l m).length 0 k s (by omega) (by omega) (by have := readsOf_len l m; omega) hs
      rw [E20_0_0_eq, lt_nat hm]
      simp only [cond_true]
      refine ob e0 ?_
      refine ob e ?_
      dsimp only
      rw [wrap_nat (by omega), List.drop_zero, swB_step _ _ hm]
      have hlen : ∀ (r : List Int) (s : List Bool), (r.foldl (us x m) s).length = s.length := by
        intro r
        induction r with
        | nil => exact fun s => rfl
        | cons t r ih => exact fun s => by rw [List.foldl_cons, ih, us_len]
      exact ih (m + 1) j (row (readsOf l) x s m) (by omega) (by omega) (by omega) (by rw [show row (readsOf l) x s m = (readsOf l m).foldl (us x m) s from rfl, hlen]; exact hs)
omit hl hr in
theorem swB_len (R : Nat → List Int) (x : Int) (m n : Nat) (s : List Bool) : (swB R x m n s).length = s.length := by
  have hlen : ∀ (i : Nat) (r : List Int) (s : List Bool), (r.foldl (us x i) s).length = s.length := by
    intro i r
    induction r with
    | nil => exact fun s => rfl
    | cons t r ih => exact fun s => by rw [List.foldl_cons, ih, us_len]
  unfold swB
  generalize List.range' m (n - m) = q
  induction q generalizing s with
  | nil => rfl
  | cons i q ih => rw [List.foldl_cons, ih]; exact hlen i _ s
theorem E20_0_spec (x : Int) : ∀ (d r j : Nat) (s : List Bool), l.length - r = d → r ≤ l.length → d < j → s.length = l.length →
    E20_0 k j (l, x, s, (r : Int), ()) = some (Sum.inl (l, rdB (readsOf l) x l.length d s, ())) := by
  have h8 := rightE_len hr
  intro d
  induction d with
  | zero =>
    intro r j s h1 h2 h3 hs
    have : r = l.length := by omega
    subst this
    match j, h3 with
    | j + 1, _ => rw [E20_0_eq, nlt_nat]; rfl
  | succ d ih =>
    intro r j s h1 h2 h3 hs
    match j, h3 with
    | j + 1, h3 =>
      have hk := hl.2.1
      have e := E20_0_0_spec hl hr x (r : Int) l.length 0 k s (by omega) (by omega) (by omega) hs
      rw [E20_0_eq, lt_nat (by omega)]
      simp only [cond_true]
      refine ob e ?_
      dsimp only
      rw [wrap_nat (by omega)]
      exact ih (r + 1) j _ (by omega) (by omega) (by omega) (by rw [swB_len]; exact hs)
theorem E20_1_spec {s : List Bool} (hs : s.length = l.length) : ∀ (d m j : Nat) (out : List Int), l.length - m = d → m ≤ l.length → d < j → out.length ≤ m →
    E20_1 k j (l, s, out, (m : Int), ()) = some (Sum.inl (out ++ rl (fl s) m l.length, ())) := by
  have h8 := rightE_len hr
  intro d
  induction d with
  | zero =>
    intro m j out h1 h2 h3 h4
    have : m = l.length := by omega
    subst this
    match j, h3 with
    | j + 1, _ => rw [E20_1_eq, nlt_nat, rl_end, List.append_nil]; rfl
  | succ d ih =>
    intro m j out h1 h2 h3 h4
    match j, h3 with
    | j + 1, h3 =>
      have hm : m < l.length := by omega
      have e1 : rd Ty.b s (m : Int) = fl s m := rd_nat (e := Ty.b) s m
      rw [E20_1_eq, lt_nat hm, inb_nat (show m < s.length by omega), wrap_nat (by omega), e1, rl_step _ hm]
      simp only [cond_true]
      cases fl s m with
      | false => exact ih (m + 1) j out (by omega) (by omega) (by omega) (by omega)
      | true =>
        have e2 : decide ((out.length + [(m : Int)].length) * (7 + 1) ≤ 140737488355328) = true := decide_eq_true (by simp; omega)
        have := ih (m + 1) j (out ++ [(m : Int)]) (by omega) (by omega) (by omega) (by simp; omega)
        rw [List.append_assoc] at this
        show (bif decide ((out.length + [(m : Int)].length) * (7 + 1) ≤ 140737488355328) then _ else none) = _
        rw [e2]
        exact this
end
theorem rl_congr {p q : Nat → Bool} {m n : Nat} (h : ∀ i, i < n → p i = q i) : rl p m n = rl q m n := by
  unfold rl
  refine congrArg _ (List.filter_congr fun i hi => ?_)
  rw [List.mem_range'_1] at hi
  exact h i (by omega)
set_option maxRecDepth 100000 in
theorem F20_spec {k : Nat} {l : List Ent} (hl : LOk k l) (x : Int) : F20 k (l, x, ()) = some ((readersB l x, ()), ()) := by
  rw [F20_eq]
  refine ob (F13_spec hl) ?_
  dsimp only
  unfold readersB
  rw [dec_lt x 0, show decide ((l.length : Int) ≤ x) = !decide (x < (l.length : Int)) by rw [dec_lt, Bool.not_not]]
  cases hr : rightE l with
  | false => rfl
  | true =>
    cases h : decide (0 ≤ x) with
    | false => rfl
    | true =>
    cases h' : decide (x < (l.length : Int)) with
    | false => rfl
    | true =>
      have h := of_decide_eq_true h
      have h' := of_decide_eq_true h'
      obtain ⟨a, rfl⟩ : ∃ i : Nat, x = (i : Int) := ⟨x.toNat, by omega⟩
      have h8 := rightE_len hr
      have hb : Tryz.prog.types[4].bytes = 1 := by kernel_rfl
      have hc : (decide (0 ≤ (l.length : Int)) && (decide ((l.length : Int) ≤ (l.length : Int)) && (decide ((l.length : Int) * ((Tryz.prog.types[4].bytes : Nat) : Int) ≤ 140737488355328) && decide ((l.length : Int) ≤ 140737488355328)))) = true := by
        rw [hb]
        simp only [Bool.and_eq_true, decide_eq_true_eq]
        omega
      have hk := hl.2.1
      have e := E20_0_spec hl hr (a : Int) l.length 0 k (List.replicate l.length false) (by omega) (by omega) (by omega) (by simp)
      obtain ⟨g1, g2⟩ := rd_all (a := a) (reads_ok l)
      have e1 := E20_1_spec hl hr g1 l.length 0 k [] (by omega) (by omega) (by omega) (by simp)
      rw [hc, Int.toNat_natCast]
      simp only [Bool.not_true, cond_false, cond_true]
      refine ob e ?_
      refine ob e1 ?_
      dsimp only
      rw [List.nil_append, rl_congr g2, Int.toNat_natCast]
      rfl
end Go.Pv.L16
