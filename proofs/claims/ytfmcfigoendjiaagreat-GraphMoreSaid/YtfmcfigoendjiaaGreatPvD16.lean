/- Layer 16, plainly: how deep each entry is. -/
import Derived.Test.YtfmcfigoendjiaaGreatPvE16
namespace Go.Pv.L16
open Go Go.Pv Go.Proofs
set_option linter.all false
set_option linter.constructorNameAsVariable false
set_option linter.unusedSectionVars false
set_option linter.unusedVariables false
set_option linter.unusedSimpArgs false

/-- The greatest so far, and one more than what stands at a place. -/
def mx (o : List Int) (a t : Int) : Int := bif decide (a < o.getD t.toNat 0 + 1) then o.getD t.toNat 0 + 1 else a
def ff (R : Nat → List Int) (o : List Int) (i : Nat) : Int := (R i).foldl (mx o) 1
def st (R : Nat → List Int) (p : List Int × Bool) (t : Nat) : List Int × Bool := (p.1.set t (ff R p.1 t), p.2 || decide (p.1.getD t 0 < ff R p.1 t))
def sw (R : Nat → List Int) (m n : Nat) (p : List Int × Bool) : List Int × Bool := (List.range' m (n - m)).foldl (st R) p
theorem sw_end (R : Nat → List Int) (n : Nat) (p : List Int × Bool) : sw R n n p = p := by simp [sw]
theorem sw_step (R : Nat → List Int) {m n : Nat} (h : m < n) (p : List Int × Bool) : sw R m n p = sw R (m + 1) n (st R p m) := by
  unfold sw
  rw [show n - m = (n - (m + 1)) + 1 by omega, List.range'_succ, List.foldl_cons]
/-- .. as often as there is room; none: it never comes to rest. -/
def dep (R : Nat → List Int) (n : Nat) : Nat → List Int → Option (List Int)
  | 0, _ => none
  | r + 1, o => bif (sw R 0 n (o, false)).2 then dep R n r (sw R 0 n (o, false)).1 else some (sw R 0 n (o, false)).1
def deepB (o : List Int) : Bool := o.any fun x => decide (3 < x)
def depthsB (l : List Ent) : List Int × Int := bif rightE l then
    (match dep (readsOf l) l.length (l.length + 1) (List.replicate l.length 0) with
     | none => ([], 161)
     | some o => bif deepB o then ([], 2) else (o, 0))
  else ([], 1)

def ROk (n : Nat) (R : Nat → List Int) : Prop := ∀ i, (R i).length ≤ n ∧ ∀ t, t ∈ R i → 0 ≤ t ∧ t < (n : Int)
def OOk (n B : Nat) (o : List Int) : Prop := o.length = n ∧ ∀ t, t < n → 0 ≤ o.getD t 0 ∧ o.getD t 0 ≤ (B : Int)
theorem reads_ok (l : List Ent) : ROk l.length (readsOf l) := fun i => ⟨readsOf_len l i, fun t ht => by
  obtain ⟨m, rfl, _, h, _⟩ := mem_rl.1 ht
  omega⟩
theorem OOk.le {n B B' : Nat} {o : List Int} (h : OOk n B o) (hb : B ≤ B') : OOk n B' o := ⟨h.1, fun t ht => by have := h.2 t ht; omega⟩
theorem fold_bound {n B : Nat} {o : List Int} (h : OOk n B o) : ∀ (r : List Int) (a : Int), (∀ t, t ∈ r → 0 ≤ t ∧ t < (n : Int)) → 1 ≤ a → a ≤ (B : Int) + 1 → 1 ≤ r.foldl (mx o) a ∧ r.foldl (mx o) a ≤ (B : Int) + 1
  | [], a, _, h1, h2 => ⟨h1, h2⟩
  | t :: r, a, hr, h1, h2 => by
    rw [List.foldl_cons]
    have ht := hr t (List.mem_cons_self ..)
    have hv := h.2 t.toNat (by omega)
    refine fold_bound h r _ (fun u hu => hr u (List.mem_cons_of_mem _ hu)) ?_ ?_ <;> (unfold mx; cases decide (a < o.getD t.toNat 0 + 1) <;> simp only [cond_true, cond_false] <;> omega)
theorem ff_bound {n B : Nat} {R : Nat → List Int} (hR : ROk n R) {o : List Int} (h : OOk n B o) (i : Nat) : 1 ≤ ff R o i ∧ ff R o i ≤ (B : Int) + 1 :=
  fold_bound h (R i) 1 (hR i).2 (by omega) (by omega)
theorem getD_set {o : List Int} {i : Nat} (h : i < o.length) (v : Int) (t : Nat) : (o.set i v).getD t 0 = if t = i then v else o.getD t 0 := by
  rw [List.getD_eq_getElem?_getD, List.getElem?_set, List.getD_eq_getElem?_getD]
  by_cases ht : t = i
  · subst ht; rw [if_pos rfl, if_pos h, if_pos rfl]; rfl
  · rw [if_neg (Ne.symm ht), if_neg ht]
theorem st_ok {n B : Nat} {R : Nat → List Int} (hR : ROk n R) {p : List Int × Bool} (h : OOk n B p.1) {m : Nat} (hm : m < n) : OOk n (B + 1) (st R p m).1 := by
  refine ⟨by simp [st, h.1], fun t ht => ?_⟩
  unfold st
  rw [getD_set (by rw [h.1]; exact hm)]
  have := ff_bound hR h m
  have := h.2 t ht
  split <;> omega
theorem sw_ok {n : Nat} {R : Nat → List Int} (hR : ROk n R) : ∀ (d m : Nat) {B : Nat} {p : List Int × Bool}, n - m = d → m ≤ n → OOk n B p.1 → OOk n (B + d) (sw R m n p).1 := by
  intro d
  induction d with
  | zero => intro m B p h1 h2 h; rw [show m = n by omega, sw_end]; exact h
  | succ d ih =>
    intro m B p h1 h2 h
    rw [sw_step R (by omega)]
    exact (ih (m + 1) (by omega) (by omega) (st_ok hR h (by omega))).le (by omega)

section
variable {k : Nat} {l : List Ent}
theorem wrap_small {x : Int} (h0 : 0 ≤ x) (h1 : x ≤ 1000000) : IntKind.i64.wrap x = x := wrap_le (by omega) (by omega)

theorem E10_0_0_spec {n B : Nat} {o : List Int} (ho : OOk n B o) (hB : B < 100000) (all : List (List Int)) (g : Bool) (x7 i N : Int) {r : List Int} (hr : ∀ t, t ∈ r → 0 ≤ t ∧ t < (n : Int)) (hl : r.length < min k 9223372036854775807) :
    ∀ (d m j : Nat) (a : Int), r.length - m = d → m ≤ r.length → d < j → E10_0_0 k j (l, all, o, g, x7, i, a, all, N, i, r, (r.length : Int), (m : Int), ()) = some (Sum.inl (l, all, o, g, x7, i, (r.drop m).foldl (mx o) a, all, N, i, ())) := by
  intro d
  induction d with
  | zero =>
    intro m j a h1 h2 h3
    have : m = r.length := by omega
    subst this
    match j, h3 with
    | j + 1, _ => rw [E10_0_0_eq, nlt_nat, List.drop_length]; rfl
  | succ d ih =>
    intro m j a h1 h2 h3
    match j, h3 with
    | j + 1, h3 =>
      have hm : m < r.length := by omega
      have e : rd (Ty.i IntKind.i64) r (m : Int) = r[m] := rd_get hm
      obtain ⟨b1, b2⟩ := hr r[m] (List.getElem_mem hm)
      rw [E10_0_0_eq, lt_nat hm, inb_nat hm, wrap_nat (by omega), e, List.drop_eq_getElem_cons hm, List.foldl_cons]
      generalize r[m] = t at b1 b2 ⊢
      obtain ⟨u, rfl⟩ : ∃ u : Nat, t = (u : Int) := ⟨t.toNat, by omega⟩
      have hu : u < o.length := by rw [ho.1]; omega
      have hv := ho.2 u (by omega)
      have e2 : rd (Ty.i IntKind.i64) o (u : Int) = o.getD u 0 := rd_nat (e := Ty.i IntKind.i64) o u
      rw [inb_nat hu, e2, wrap_small (by omega) (by omega)]
      exact ih (m + 1) j _ (by omega) (by omega) (by omega)
theorem E11_0_0_0_spec {n B : Nat} {o : List Int} (ho : OOk n B o) (hB : B < 100000) (g : Bool) (x5 i : Int) {r : List Int} (hr : ∀ t, t ∈ r → 0 ≤ t ∧ t < (n : Int)) (hl : r.length < min k 9223372036854775807) :
    ∀ (d m j : Nat) (a : Int), r.length - m = d → m ≤ r.length → d < j → E11_0_0_0 k j (l, o, x5, g, i, a, r, (m : Int), ()) = some (Sum.inl (l, o, x5, g, i, (r.drop m).foldl (mx o) a, ())) := by
  intro d
  induction d with
  | zero =>
    intro m j a h1 h2 h3
    have : m = r.length := by omega
    subst this
    match j, h3 with
    | j + 1, _ => rw [E11_0_0_0_eq, nlt_nat, List.drop_length]; rfl
  | succ d ih =>
    intro m j a h1 h2 h3
    match j, h3 with
    | j + 1, h3 =>
      have hm : m < r.length := by omega
      have e : rd (Ty.i IntKind.i64) r (m : Int) = r[m] := rd_get hm
      obtain ⟨b1, b2⟩ := hr r[m] (List.getElem_mem hm)
      rw [E11_0_0_0_eq, lt_nat hm, inb_nat hm, wrap_nat (by omega), e, List.drop_eq_getElem_cons hm, List.foldl_cons]
      generalize r[m] = t at b1 b2 ⊢
      obtain ⟨u, rfl⟩ : ∃ u : Nat, t = (u : Int) := ⟨t.toNat, by omega⟩
      have hu : u < o.length := by rw [ho.1]; omega
      have hv := ho.2 u (by omega)
      have e2 : rd (Ty.i IntKind.i64) o (u : Int) = o.getD u 0 := rd_nat (e := Ty.i IntKind.i64) o u
      rw [inb_nat hu, e2, wrap_small (by omega) (by omega)]
      exact ih (m + 1) j _ (by omega) (by omega) (by omega)
end

section
variable {k : Nat} {l : List Ent} (hl : LOk k l) (hr : rightE l = true)
include hl hr
theorem E10_0_spec (x7 : Int) : ∀ (d m j : Nat) {B : Nat} (p : List Int × Bool), l.length - m = d → m ≤ l.length → d < j → OOk l.length B p.1 → B + d < 100000 →
    E10_0 k j (l, edgesB l, p.1, p.2, x7, edgesB l, (l.length : Int), (m : Int), ()) = some (Sum.inl (l, edgesB l, (sw (readsOf l) m l.length p).1, (sw (readsOf l) m l.length p).2, x7, ())) := by
  have h8 := rightE_len hr
  have he : edgesB l = (List.range l.length).map (readsOf l) := by unfold edgesB; rw [hr]; rfl
  intro d
  induction d with
  | zero =>
    intro m j B p h1 h2 h3 ho hB
    have : m = l.length := by omega
    subst this
    match j, h3 with
    | j + 1, _ => rw [E10_0_eq, nlt_nat, sw_end]; rfl
  | succ d ih =>
    intro m j B p h1 h2 h3 ho hB
    match j, h3 with
    | j + 1, h3 =>
      have hm : m < l.length := by omega
      have hlen : (edgesB l).length = l.length := by rw [he]; simp
      have er : rd (Ty.i IntKind.i64).l (edgesB l) (m : Int) = readsOf l m := by rw [he]; exact (rd_nat _ _).trans (getD_map _ _ hm)
      have hR := reads_ok l
      have hk := hl.2.1
      have e := E10_0_0_spec (k := k) (l := l) ho (by omega) (edgesB l) p.2 x7 (m : Int) (l.length : Int) (hR m).2 (by have := (hR m).1; omega) (readsOf l m).length 0 k 1 (by omega) (by omega) (by have := (hR m).1; omega)
      rw [E10_0_eq, lt_nat hm, er, show inb (m : Int) (List.length (edgesB l)) = true by rw [hlen]; exact inb_nat hm]
      have e : E10_0_0 k k (l, edgesB l, p.1, p.2, x7, (m : Int), 1, edgesB l, (l.length : Int), (m : Int), readsOf l m, ((readsOf l m).length : Int), 0, ()) = _ := e
      refine ob e ?_
      dsimp only
      rw [List.drop_zero, inb_nat (show m < p.1.length by rw [ho.1]; exact hm), wrap_nat (by omega), Int.toNat_natCast]
      have e2 : rd (Ty.i IntKind.i64) p.1 (m : Int) = p.1.getD m 0 := rd_nat (e := Ty.i IntKind.i64) p.1 m
      rw [e2, sw_step _ hm]
      have := ih (m + 1) j (st (readsOf l) p m) (by omega) (by omega) (by omega) (st_ok hR ho hm) (by omega)
      rw [← this]
      unfold st ff
      dsimp only
      cases p.2 <;> rfl
end

/-! ### it only grows -/
def Gr (n : Nat) (R : Nat → List Int) (o : List Int) : Prop := ∀ i, i < n → o.getD i 0 ≤ ff R o i
theorem fold_mono {n : Nat} {o o' : List Int} (h : ∀ t, t < n → o.getD t 0 ≤ o'.getD t 0) : ∀ (r : List Int) (a a' : Int), (∀ t, t ∈ r → 0 ≤ t ∧ t < (n : Int)) → a ≤ a' → r.foldl (mx o) a ≤ r.foldl (mx o') a'
  | [], a, a', _, h1 => h1
  | t :: r, a, a', hr, h1 => by
    rw [List.foldl_cons, List.foldl_cons]
    refine fold_mono h r _ _ (fun u hu => hr u (List.mem_cons_of_mem _ hu)) ?_
    have ht := hr t (List.mem_cons_self ..)
    have hv := h t.toNat (by omega)
    unfold mx
    cases h2 : decide (a < o.getD t.toNat 0 + 1) <;> cases h3 : decide (a' < o'.getD t.toNat 0 + 1) <;> simp only [cond_true, cond_false] <;> simp only [decide_eq_true_eq, decide_eq_false_iff_not] at h2 h3 <;> omega
theorem gr_zero (n : Nat) (R : Nat → List Int) : Gr n R (List.replicate n 0) := by
  intro i hi
  have h0 : OOk n 0 (List.replicate n 0) := ⟨by simp, fun t ht => by rw [List.getD_eq_getElem?_getD, List.getElem?_replicate, if_pos ht]; simp⟩
  have e : (List.replicate n (0 : Int)).getD i 0 = 0 := by rw [List.getD_eq_getElem?_getD, List.getElem?_replicate, if_pos hi]; rfl
  rw [e]
  have key : ∀ (o : List Int) (r : List Int) (a : Int), 0 ≤ a → 0 ≤ r.foldl (mx o) a := by
    intro o r
    induction r with
    | nil => exact fun a h => h
    | cons t r ih =>
      intro a h
      rw [List.foldl_cons]
      refine ih _ ?_
      unfold mx
      cases h2 : decide (a < o.getD t.toNat 0 + 1) with
      | false => exact h
      | true => have := of_decide_eq_true h2; simp only [cond_true]; omega
  exact key _ _ 1 (by omega)
theorem st_up {n B : Nat} {R : Nat → List Int} {p : List Int × Bool} (h : OOk n B p.1) (hg : Gr n R p.1) {m : Nat} (hm : m < n) : ∀ t, t < n → p.1.getD t 0 ≤ (st R p m).1.getD t 0 := by
  intro t ht
  unfold st
  rw [getD_set (by rw [h.1]; exact hm)]
  split
  · rename_i h'; subst h'; exact hg t hm
  · omega
theorem st_gr {n B : Nat} {R : Nat → List Int} (hR : ROk n R) {p : List Int × Bool} (h : OOk n B p.1) (hg : Gr n R p.1) {m : Nat} (hm : m < n) : Gr n R (st R p m).1 := by
  intro i hi
  have hup := st_up (R := R) h hg hm
  have hm1 : ff R p.1 i ≤ ff R (st R p m).1 i := fold_mono hup (R i) 1 1 (hR i).2 (by omega)
  have e : (st R p m).1.getD i 0 = if i = m then ff R p.1 m else p.1.getD i 0 := by unfold st; exact getD_set (by rw [h.1]; exact hm) _ _
  rw [e]
  split
  · rename_i h'; subst h'; exact hm1
  · exact Int.le_trans (hg i hi) hm1
theorem sw_gr {n : Nat} {R : Nat → List Int} (hR : ROk n R) : ∀ (d m : Nat) {B : Nat} {p : List Int × Bool}, n - m = d → m ≤ n → OOk n B p.1 → Gr n R p.1 → Gr n R (sw R m n p).1 := by
  intro d
  induction d with
  | zero => intro m B p h1 h2 h hg; rw [show m = n by omega, sw_end]; exact hg
  | succ d ih =>
    intro m B p h1 h2 h hg
    rw [sw_step R (by omega)]
    exact ih (m + 1) (by omega) (by omega) (st_ok hR h (by omega)) (st_gr hR h hg (by omega))

section
variable {k : Nat} {l : List Ent} (hl : LOk k l) (hr : rightE l = true)
include hl hr
theorem E11_0_0_spec (x5 : Int) : ∀ (d m j : Nat) {B : Nat} (p : List Int × Bool), l.length - m = d → m ≤ l.length → d < j → OOk l.length B p.1 → B + d < 100000 → Gr l.length (readsOf l) p.1 →
    E11_0_0 k j (l, p.1, x5, !p.2, (m : Int), ()) = some (Sum.inl (l, (sw (readsOf l) m l.length p).1, x5, !(sw (readsOf l) m l.length p).2, ())) := by
  have h8 := rightE_len hr
  intro d
  induction d with
  | zero =>
    intro m j B p h1 h2 h3 ho hB hg
    have : m = l.length := by omega
    subst this
    match j, h3 with
    | j + 1, _ => rw [E11_0_0_eq, nlt_nat, sw_end]; rfl
  | succ d ih =>
    intro m j B p h1 h2 h3 ho hB hg
    match j, h3 with
    | j + 1, h3 =>
      have hm : m < l.length := by omega
      have hR := reads_ok l
      have hk := hl.2.1
      have ea : readsA l (m : Int) = readsOf l m := by
        unfold readsA
        rw [hr, lt_nat hm, decide_eq_true (show (0 : Int) ≤ (m : Int) by omega), Int.toNat_natCast]; rfl
      have e0 := F18_spec hl (m : Int)
      rw [ea] at e0
      have e := E11_0_0_0_spec (k := k) (l := l) ho (by omega) (!p.2) x5 (m : Int) (hR m).2 (by have := (hR m).1; omega) (readsOf l m).length 0 k 1 (by omega) (by omega) (by have := (hR m).1; omega)
      have e : E11_0_0_0 k k (l, p.1, x5, !p.2, (m : Int), 1, readsOf l m, 0, ()) = _ := e
      rw [E11_0_0_eq, lt_nat hm]
      simp only [cond_true]
      refine ob e0 ?_
      refine ob e ?_
      dsimp only
      rw [List.drop_zero, inb_nat (show m < p.1.length by rw [ho.1]; exact hm), wrap_nat (by omega), Int.toNat_natCast]
      have e2 : rd (Ty.i IntKind.i64) p.1 (m : Int) = p.1.getD m 0 := rd_nat (e := Ty.i IntKind.i64) p.1 m
      rw [e2, sw_step _ hm]
      have := ih (m + 1) j (st (readsOf l) p m) (by omega) (by omega) (by omega) (st_ok hR ho hm) (by omega) (st_gr hR ho hg hm)
      rw [← this]
      have hgm := hg m hm
      have hd : decide ((readsOf l m).foldl (mx p.1) 1 = p.1.getD m 0) = !decide (p.1.getD m 0 < ff (readsOf l) p.1 m) := by
        rw [← decide_not]
        refine decide_eq_decide.2 ?_
        show ff (readsOf l) p.1 m = p.1.getD m 0 ↔ _
        omega
      have hst : st (readsOf l) p m = (p.1.set m (ff (readsOf l) p.1 m), p.2 || decide (p.1.getD m 0 < ff (readsOf l) p.1 m)) := rfl
      rw [hst, hd]
      show (bif !!decide (p.1.getD m 0 < ff (readsOf l) p.1 m) then _ else _) = _
      cases decide (p.1.getD m 0 < ff (readsOf l) p.1 m) <;> cases p.2 <;> rfl
end

/-! ### the greatest -/
def mo (a x : Int) : Int := bif decide (a < x) then x else a
theorem mo_gt : ∀ (r : List Int) (a c : Int), c < r.foldl mo a ↔ c < a ∨ ∃ x, x ∈ r ∧ c < x
  | [], a, c => by simp
  | x :: r, a, c => by
    rw [List.foldl_cons, mo_gt r]
    unfold mo
    constructor
    · rintro (h | ⟨y, h1, h2⟩)
      · cases h3 : decide (a < x) with
        | true => rw [h3] at h; exact .inr ⟨x, List.mem_cons_self .., h⟩
        | false => rw [h3] at h; exact .inl h
      · exact .inr ⟨y, List.mem_cons_of_mem _ h1, h2⟩
    · rintro (h | ⟨y, h1, h2⟩)
      · cases h3 : decide (a < x) with
        | true => have := of_decide_eq_true h3; simp only [cond_true]; omega
        | false => exact .inl h
      · rcases List.mem_cons.1 h1 with rfl | h1
        · cases h3 : decide (a < y) with
          | true => exact .inl h2
          | false => have := of_decide_eq_false h3; simp only [cond_false]; omega
        · exact .inr ⟨y, h1, h2⟩
theorem E25_0_spec {k : Nat} {o : List Int} (ho : o.length < 1000000) : ∀ (d m j : Nat) (a : Int), o.length - m = d → m ≤ o.length → d < j → E25_0 k j (o, a, (m : Int), ()) = some (Sum.inl ((o.drop m).foldl mo a, ())) := by
  intro d
  induction d with
  | zero =>
    intro m j a h1 h2 h3
    have : m = o.length := by omega
    subst this
    match j, h3 with
    | j + 1, _ => rw [E25_0_eq, nlt_nat, List.drop_length]; rfl
  | succ d ih =>
    intro m j a h1 h2 h3
    match j, h3 with
    | j + 1, h3 =>
      have hm : m < o.length := by omega
      have e : rd (Ty.i IntKind.i64) o (m : Int) = o[m] := rd_get hm
      rw [E25_0_eq, lt_nat hm, inb_nat hm, wrap_nat (by omega), e, List.drop_eq_getElem_cons hm, List.foldl_cons]
      exact ih (m + 1) j _ (by omega) (by omega) (by omega)
theorem F25_spec {k : Nat} {o : List Int} (h0 : 0 < o.length) (ho : o.length < min k 1000000) : ∃ m : Int, F25 k (o, ()) = some ((m, ()), ()) ∧ decide (3 < m) = deepB o := by
  match o, h0 with
  | a :: r, h0 =>
    have e := E25_0_spec (k := k) (o := a :: r) (by omega) r.length 1 k a (by simp) (by simp) (by simp at ho; omega)
    have e : E25_0 k k (a :: r, a, 1, ()) = some (Sum.inl (r.foldl mo a, ())) := e
    refine ⟨r.foldl mo a, ?_, ?_⟩
    · rw [F25_eq]
      have h1 : decide ((((a :: r).length : Nat) : Int) < 1) = false := decide_eq_false (by simp; omega)
      have h2 : inb 0 (a :: r).length = true := inb_nat (i := 0) (by simp)
      rw [h1, h2]
      simp only [cond_true, cond_false]
      exact ob e rfl
    · unfold deepB
      rw [Bool.eq_iff_iff, decide_eq_true_eq, mo_gt, List.any_eq_true]
      simp

def resD : Option (List Int) → List Int × Int
  | none => ([], 161)
  | some o => bif deepB o then ([], 2) else (o, 0)

section
variable {k : Nat} {l : List Ent} (hl : LOk k l) (hr : rightE l = true) (hk : 2000 < k)
include hl hr hk
theorem ES10_spec : ∀ (d r j : Nat) {B : Nat} (o : List Int), l.length + 1 - r = d → r ≤ l.length → d < j → OOk l.length B o → B + d * l.length < 90000 →
    ES10 k j (l, edgesB l, o, (r : Int), ()) = some (Sum.inl ((resD (dep (readsOf l) l.length d o)).1, (resD (dep (readsOf l) l.length d o)).2, ())) := by
  have h8 := rightE_len hr
  have hR := reads_ok l
  have hlen : (edgesB l).length = l.length := by unfold edgesB; rw [hr]; simp
  intro d
  induction d with
  | zero => intro r j B o h1 h2; omega
  | succ d ih =>
    intro r j B o h1 h2 h3 ho hB
    match j, h3 with
    | j + 1, h3 =>
      have hdl : (d + 1) * l.length = d * l.length + l.length := by rw [Nat.succ_mul]
      have e := E10_0_spec (k := k) hl hr (r : Int) l.length 0 k (o, false) (by omega) (by omega) (by omega) ho (by omega)
      have hok := sw_ok hR l.length 0 (p := (o, false)) (by omega) (by omega) ho
      have e : E10_0 k k (l, edgesB l, o, false, (r : Int), edgesB l, (l.length : Int), 0, ()) = _ := e
      rw [ES10_eq, hlen]
      refine ob e ?_
      dsimp only
      unfold dep
      generalize sw (readsOf l) 0 l.length (o, false) = p at hok ⊢
      obtain ⟨p1, p2⟩ := p
      dsimp only at hok ⊢
      cases p2 with
      | true =>
        rw [wrap_nat (by omega)]
        cases hc : decide ((r : Int) + 1 ≤ (l.length : Int)) with
        | true =>
          have hc := of_decide_eq_true hc
          have := ih (r + 1) j p1 (by omega) (by omega) (by omega) hok (by omega)
          simp only [cond_true]
          exact this
        | false =>
          have hc := of_decide_eq_false hc
          have : d = 0 := by omega
          subst this
          rfl
      | false =>
        have hn : decide (0 < (l.length : Int)) = decide (0 < l.length) := decide_eq_decide.2 (by omega)
        rw [hn]
        cases hz : decide (0 < l.length) with
        | false =>
          have hz := of_decide_eq_false hz
          have : p1 = [] := List.eq_nil_of_length_eq_zero (by rw [hok.1]; omega)
          subst this
          rfl
        | true =>
          have hz := of_decide_eq_true hz
          obtain ⟨m, f1, f2⟩ := F25_spec (k := k) (o := p1) (by rw [hok.1]; omega) (by rw [hok.1]; omega)
          simp only [cond_false, cond_true]
          refine ob f1 ?_
          show (bif decide (3 < m) then _ else _) = _
          rw [f2]
          rw [show resD (some p1) = bif deepB p1 then ([], 2) else (p1, 0) from rfl]
          cases deepB p1 <;> rfl
set_option maxRecDepth 100000 in
theorem F10_right : F10 k (l, ()) = some (((resD (dep (readsOf l) l.length (l.length + 1) (List.replicate l.length 0))).1, (resD (dep (readsOf l) l.length (l.length + 1) (List.replicate l.length 0))).2, ()), ()) := by
  have h8 := rightE_len hr
  have hR := reads_ok l
  have hlen : (edgesB l).length = l.length := by unfold edgesB; rw [hr]; simp
  have ho : OOk l.length 0 (List.replicate l.length 0) := ⟨by simp, fun t ht => by rw [List.getD_eq_getElem?_getD, List.getElem?_replicate, if_pos ht]; simp⟩
  have e := E10_0_spec (k := k) hl hr 0 l.length 0 k (List.replicate l.length 0, false) (by omega) (by omega) (by omega) ho (by omega)
  have hok := sw_ok hR l.length 0 (p := (List.replicate l.length 0, false)) (by omega) (by omega) ho
  have e : E10_0 k k (l, edgesB l, List.replicate l.length 0, false, 0, edgesB l, (l.length : Int), 0, ()) = _ := e
  rw [F10_eq]
  refine ob (F12_spec hl) ?_
  dsimp only
  rw [hr]
  simp only [Bool.not_true, cond_false]
  refine ob (F24_spec hl) ?_
  dsimp only
  have hb : Tryz.prog.types[3].bytes = 8 := by kernel_rfl
  have hc : (decide (0 ≤ (l.length : Int)) && (decide ((l.length : Int) ≤ (l.length : Int)) && (decide ((l.length : Int) * ((Tryz.prog.types[3].bytes : Nat) : Int) ≤ 140737488355328) && decide ((l.length : Int) ≤ 140737488355328)))) = true := by
    rw [hb]
    simp only [Bool.and_eq_true, decide_eq_true_eq]
    omega
  rw [hc, hlen, Int.toNat_natCast]
  simp only [cond_true]
  refine ob e ?_
  dsimp only
  unfold dep
  generalize sw (readsOf l) 0 l.length (List.replicate l.length 0, false) = p at hok ⊢
  obtain ⟨p1, p2⟩ := p
  dsimp only at hok ⊢
  cases p2 with
  | true =>
    rw [show IntKind.i64.wrap ((0 : Int) + 1) = 1 from rfl]
    cases hc : decide ((1 : Int) ≤ (l.length : Int)) with
    | true =>
      have hc := of_decide_eq_true hc
      have : l.length * l.length ≤ 64 := Nat.mul_le_mul h8 h8
      have := ES10_spec hl hr hk l.length 1 k p1 (by omega) (by omega) (by omega) hok (by omega)
      exact ob this rfl
    | false =>
      have hc := of_decide_eq_false hc
      have hz : l.length = 0 := by omega
      rw [hz]
      rfl
  | false =>
    have hn : decide (0 < (l.length : Int)) = decide (0 < l.length) := decide_eq_decide.2 (by omega)
    rw [hn]
    cases hz : decide (0 < l.length) with
    | false =>
      have hz := of_decide_eq_false hz
      have : p1 = [] := List.eq_nil_of_length_eq_zero (by rw [hok.1]; omega)
      subst this
      rfl
    | true =>
      have hz := of_decide_eq_true hz
      obtain ⟨m, f1, f2⟩ := F25_spec (k := k) (o := p1) (by rw [hok.1]; omega) (by rw [hok.1]; omega)
      refine ob f1 ?_
      show (bif decide (3 < m) then _ else _) = _
      rw [f2]
      simp only [cond_false]
      rw [show resD (some p1) = bif deepB p1 then ([], 2) else (p1, 0) from rfl]
      cases deepB p1 <;> rfl
end
theorem depthsB_right {l : List Ent} (hr : rightE l = true) : depthsB l = resD (dep (readsOf l) l.length (l.length + 1) (List.replicate l.length 0)) := by
  unfold depthsB
  rw [hr]
  simp only [cond_true]
  cases dep (readsOf l) l.length (l.length + 1) (List.replicate l.length 0) <;> rfl
set_option maxRecDepth 100000 in
theorem F10_spec {k : Nat} {l : List Ent} (hl : LOk k l) (hk : 2000 < k) : F10 k (l, ()) = some (((depthsB l).1, (depthsB l).2, ()), ()) := by
  cases hr : rightE l with
  | true => rw [F10_right hl hr hk, depthsB_right hr]
  | false =>
    rw [F10_eq]
    refine ob (F12_spec hl) ?_
    dsimp only
    unfold depthsB
    rw [hr]
    rfl

section
variable {k : Nat} {l : List Ent} (hl : LOk k l) (hr : rightE l = true) (hk : 2000 < k)
include hl hr hk
theorem E11_0_1_spec {o : List Int} (ho : o.length = l.length) : E11_0_1 k k (l, o, 0, ()) = some (bif deepB o then Sum.inr (Sum.inl ([], 2, ())) else Sum.inl (o, ())) := by
  have h8 := rightE_len hr
  unfold deepB
  rw [any_anyR o (fun x => decide (3 < x)) 0, ho]
  refine scan0 (E := fun j m => E11_0_1 k j (l, o, m, ())) (fun j i hi => ?_) (fun j => ?_) (by omega)
  · dsimp only
    have e2 : rd (Ty.i IntKind.i64) o (i : Int) = o.getD i 0 := rd_nat (e := Ty.i IntKind.i64) o i
    rw [E11_0_1_eq, lt_nat hi, inb_nat (by omega), wrap_nat (by omega), e2]
    rfl
  · dsimp only
    rw [E11_0_1_eq, nlt_nat]; rfl
theorem E11_0_spec : ∀ (d r j : Nat) {B : Nat} (o : List Int), l.length + 1 - r = d → r ≤ l.length + 1 → d < j → OOk l.length B o → B + d * l.length < 90000 → Gr l.length (readsOf l) o →
    E11_0 k j (l, o, (r : Int), ()) = some (match dep (readsOf l) l.length d o with | none => Sum.inl () | some o => Sum.inr (Sum.inl ((resD (some o)).1, (resD (some o)).2, ()))) := by
  have h8 := rightE_len hr
  have hR := reads_ok l
  intro d
  induction d with
  | zero =>
    intro r j B o h1 h2 h3 ho hB hg
    match j, h3 with
    | j + 1, h3 =>
      rw [E11_0_eq, show decide ((r : Int) ≤ (l.length : Int)) = false from decide_eq_false (by omega)]
      rfl
  | succ d ih =>
    intro r j B o h1 h2 h3 ho hB hg
    match j, h3 with
    | j + 1, h3 =>
      have hdl : (d + 1) * l.length = d * l.length + l.length := by rw [Nat.succ_mul]
      have e := E11_0_0_spec (k := k) hl hr (r : Int) l.length 0 k (o, false) (by omega) (by omega) (by omega) ho (by omega) hg
      have hok := sw_ok hR l.length 0 (p := (o, false)) (by omega) (by omega) ho
      have hgr := sw_gr hR l.length 0 (p := (o, false)) (by omega) (by omega) ho hg
      have e : E11_0_0 k k (l, o, (r : Int), true, 0, ()) = _ := e
      rw [E11_0_eq, show decide ((r : Int) ≤ (l.length : Int)) = true from decide_eq_true (by omega)]
      simp only [cond_true]
      refine ob e ?_
      dsimp only
      unfold dep
      generalize sw (readsOf l) 0 l.length (o, false) = p at hok hgr ⊢
      obtain ⟨p1, p2⟩ := p
      dsimp only at hok hgr ⊢
      cases p2 with
      | true =>
        rw [wrap_nat (by omega)]
        exact ih (r + 1) j p1 (by omega) (by omega) (by omega) hok (by omega) hgr
      | false =>
        show (E11_0_1 k k (l, p1, 0, ())).bind _ = _
        refine ob (E11_0_1_spec hl hr hk hok.1) ?_
        simp only [cond_false]
        rw [show resD (some p1) = bif deepB p1 then ([], 2) else (p1, 0) from rfl]
        cases deepB p1 <;> rfl
end
set_option maxRecDepth 100000 in
theorem F11_spec {k : Nat} {l : List Ent} (hl : LOk k l) (hk : 2000 < k) : F11 k (l, ()) = some (((depthsB l).1, (depthsB l).2, ()), ()) := by
  rw [F11_eq]
  refine ob (F13_spec hl) ?_
  dsimp only
  cases hr : rightE l with
  | false =>
    unfold depthsB
    rw [hr]
    rfl
  | true =>
    have h8 := rightE_len hr
    have ho : OOk l.length 0 (List.replicate l.length 0) := ⟨by simp, fun t ht => by rw [List.getD_eq_getElem?_getD, List.getElem?_replicate, if_pos ht]; simp⟩
    have hs : (l.length + 1) * l.length ≤ 9 * 8 := Nat.mul_le_mul (by omega) h8
    have e := E11_0_spec hl hr hk (l.length + 1) 0 k (List.replicate l.length 0) (by omega) (by omega) (by omega) ho (by omega) (gr_zero _ _)
    have e : E11_0 k k (l, List.replicate l.length 0, 0, ()) = _ := e
    have hb : Tryz.prog.types[3].bytes = 8 := by kernel_rfl
    have hc : (decide (0 ≤ (l.length : Int)) && (decide ((l.length : Int) ≤ (l.length : Int)) && (decide ((l.length : Int) * ((Tryz.prog.types[3].bytes : Nat) : Int) ≤ 140737488355328) && decide ((l.length : Int) ≤ 140737488355328)))) = true := by
      rw [hb]
      simp only [Bool.and_eq_true, decide_eq_true_eq]
      omega
    rw [hc, Int.toNat_natCast]
    simp only [Bool.not_true, cond_false, cond_true]
    refine ob e ?_
    rw [depthsB_right hr]
    cases dep (readsOf l) l.length (l.length + 1) (List.replicate l.length 0) <;> rfl
end Go.Pv.L16
