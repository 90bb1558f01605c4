/- Layer 16, plainly: the program's readers. -/
import Derived.Test.YtfmcfigoendjiaaGreatPvRd16
namespace Go.Pv.L16
open Go Go.Pv Go.Proofs
set_option linter.all false
set_option linter.constructorNameAsVariable false
set_option linter.unusedSectionVars false
set_option linter.unusedVariables false
set_option linter.unusedSimpArgs false

def conB (r : List Int) (x : Int) : Bool := r.any fun y => decide (x = y)
theorem conB_iff {r : List Int} {x : Int} : conB r x = true ↔ x ∈ r := by
  unfold conB
  rw [List.any_eq_true]
  constructor
  · rintro ⟨y, h1, h2⟩; rw [of_decide_eq_true h2]; exact h1
  · exact fun h => ⟨x, h, decide_eq_true rfl⟩
theorem F35_spec {k : Nat} {r : List Int} {x : Int} (hl : r.length < min k 1000000) : F35 k (r, x, ()) = some ((conB r x, ()), ()) := by
  have hE := scanI (E := fun j i => E48_0 k j (r, x, (r.length : Int), i, ())) (n := r.length) (p := fun i => decide (x = r.getD i 0)) (f := fun i => Sum.inr (Sum.inl ((i : Int), ()))) (b := Sum.inl ()) (fun j i hi => by
      dsimp only
      have e : rd (Ty.i IntKind.i64) r (i : Int) = r.getD i 0 := rd_nat (e := Ty.i IntKind.i64) r i
      rw [E48_0_eq, lt_nat hi, inb_nat hi, wrap_nat (by omega), e]
      rfl)
    (fun j => by dsimp only; rw [E48_0_eq, nlt_nat]; rfl) r.length 0 k (by omega) (by omega) (by omega)
  rw [F35_eq, F48_eq]
  unfold conB
  rw [any_anyR r (fun y => decide (x = y)) 0]
  cases ha : anyR (fun i => decide (x = r.getD i 0)) 0 r.length with
  | true =>
    obtain ⟨m, _, _, hm⟩ := hE.1 ha
    have hm : E48_0 k k (r, x, (r.length : Int), 0, ()) = some (Sum.inr (Sum.inl ((m : Int), ()))) := hm
    rw [hm]
    show some ((decide (0 ≤ (m : Int)), ()), ()) = _
    rw [decide_eq_true (by omega : 0 ≤ (m : Int))]
  | false =>
    have hm : E48_0 k k (r, x, (r.length : Int), 0, ()) = some (Sum.inl ()) := hE.2 ha
    rw [hm]
    rfl

/-- How many are not there yet. -/
def free (n : Nat) (out : List Int) : Nat := cnt (fun i => !conB out (i : Int)) n
def okZ (R : Nat → List Int) (n a : Nat) (z : Int) : Prop := ∃ i : Nat, z = (i : Int) ∧ Rch R n a i
structure Sw (R : Nat → List Int) (n a : Nat) (out q out' q' : List Int) : Prop where
  nd : out.Nodup → out'.Nodup
  ok : (∀ z, z ∈ out → okZ R n a z) → ∀ z, z ∈ out' → okZ R n a z
  mono : ∀ z, z ∈ out → z ∈ out'
  qm : ∀ z, z ∈ q' → z ∈ q ∨ z ∈ out'
  qq : ∀ z, z ∈ q → z ∈ q'
  new : ∀ z, z ∈ out' → z ∈ out ∨ z ∈ q'
  fr : q'.length + free n out' ≤ q.length + free n out
  ln : out'.length + free n out' ≤ out.length + free n out
theorem Sw.refl {R : Nat → List Int} {n a : Nat} (out q : List Int) : Sw R n a out q out q := ⟨id, id, fun _ h => h, fun _ h => .inl h, fun _ h => h, fun _ h => .inl h, Nat.le_refl _, Nat.le_refl _⟩
theorem Sw.trans {R : Nat → List Int} {n a : Nat} {o q o' q' o'' q'' : List Int} (h : Sw R n a o q o' q') (h' : Sw R n a o' q' o'' q'') : Sw R n a o q o'' q'' where
  nd := fun k => h'.nd (h.nd k)
  ok := fun k => h'.ok (h.ok k)
  mono := fun z k => h'.mono z (h.mono z k)
  qm := fun z k => by
    rcases h'.qm z k with k | k
    · exact (h.qm z k).imp id fun k => h'.mono z k
    · exact .inr k
  qq := fun z k => h'.qq z (h.qq z k)
  new := fun z k => by
    rcases h'.new z k with k | k
    · exact (h.new z k).imp id fun k => h'.qq z k
    · exact .inr k
  fr := Nat.le_trans h'.fr h.fr
  ln := Nat.le_trans h'.ln h.ln
theorem free_more {n : Nat} {out : List Int} {i : Nat} (hi : i < n) (h : conB out (i : Int) = false) : free n (out ++ [(i : Int)]) + 1 ≤ free n out := by
  refine cnt_more (fun u _ hu => ?_) hi (by rw [h]; rfl) ?_
  · cases hc : conB out (u : Int) with
    | false => rfl
    | true =>
      have : conB (out ++ [(i : Int)]) (u : Int) = true := conB_iff.2 (List.mem_append.2 (.inl (conB_iff.1 hc)))
      rw [this] at hu; cases hu
  · have : conB (out ++ [(i : Int)]) (i : Int) = true := conB_iff.2 (by simp)
    rw [this]; rfl

section
variable {k : Nat} {l : List Ent} (hl : LOk k l) (hr : rightE l = true) (hk : 2000 < k)
include hl hr hk
theorem E19_0_0_spec {a : Nat} {t0 : Int} (ht : t0 = (a : Int) ∨ okZ (readsOf l) l.length a t0) : ∀ (d m j : Nat) (out q : List Int), l.length - m = d → m ≤ l.length → d < j → out.length + free l.length out ≤ 100 → q.length + free l.length out ≤ 100 →
    ∃ out' q', E19_0_0 k j (edgesB l, out, t0 :: q, edgesB l, (l.length : Int), (m : Int), ()) = some (Sum.inl (edgesB l, out', t0 :: q', ())) ∧ Sw (readsOf l) l.length a out q out' q' ∧ ∀ i, m ≤ i → i < l.length → t0 ∈ readsOf l i → (i : Int) ∈ out' := by
  have h8 := rightE_len hr
  have he : edgesB l = (List.range l.length).map (readsOf l) := by unfold edgesB; rw [hr]; rfl
  have hlen : (edgesB l).length = l.length := by rw [he]; simp
  intro d
  induction d with
  | zero =>
    intro m j out q h1 h2 h3 h4 h5
    have : m = l.length := by omega
    subst this
    match j, h3 with
    | j + 1, _ =>
      refine ⟨out, q, ?_, .refl _ _, fun i h6 h7 => by omega⟩
      rw [E19_0_0_eq, nlt_nat]; rfl
  | succ d ih =>
    intro m j out q h1 h2 h3 h4 h5
    match j, h3 with
    | j + 1, h3 =>
      have hm : m < l.length := by omega
      have er : rd (Ty.i IntKind.i64).l (edgesB l) (m : Int) = readsOf l m := by rw [he]; exact (rd_nat _ _).trans (getD_map _ _ hm)
      have e0 : rd (Ty.i IntKind.i64) (t0 :: q) 0 = t0 := rfl
      have ei : inb 0 (t0 :: q).length = true := inb_nat (i := 0) (by simp)
      have hRl := readsOf_len l m
      have f1 : F35 k (readsOf l m, t0, ()) = some ((conB (readsOf l m) t0, ()), ()) := F35_spec (by omega)
      have f2 : F35 k (out, (m : Int), ()) = some ((conB out (m : Int), ()), ()) := F35_spec (by omega)
      rw [E19_0_0_eq, lt_nat hm, show inb (m : Int) (List.length (edgesB l)) = true by rw [hlen]; exact inb_nat hm, er, e0, ei, wrap_nat (by omega)]
      simp only [cond_true]
      have g : ∀ {z : Option (XD X19_0_0)}, (bif conB (readsOf l m) t0 && !conB out (m : Int) then z = E19_0_0 k j (edgesB l, out ++ [(m : Int)], t0 :: (q ++ [(m : Int)]), edgesB l, (l.length : Int), (m : Int) + 1, ()) else z = E19_0_0 k j (edgesB l, out, t0 :: q, edgesB l, (l.length : Int), (m : Int) + 1, ())) →
          ∃ out' q', z = some (Sum.inl (edgesB l, out', t0 :: q', ())) ∧ Sw (readsOf l) l.length a out q out' q' ∧ ∀ i, m ≤ i → i < l.length → t0 ∈ readsOf l i → (i : Int) ∈ out' := by
        intro z hz
        cases hc : conB (readsOf l m) t0 && !conB out (m : Int) with
        | false =>
          rw [hc] at hz
          obtain ⟨o', q', k1, k2, k3⟩ := ih (m + 1) j out q (by omega) (by omega) (by omega) h4 h5
          refine ⟨o', q', hz.trans k1, k2, fun i h6 h7 h8 => ?_⟩
          by_cases e : i = m
          · subst e
            refine k2.mono _ ?_
            rw [Bool.and_eq_false_iff] at hc
            rcases hc with hc | hc
            · have := conB_iff.2 h8; rw [hc] at this; cases this
            · refine conB_iff.1 ?_
              simpa using hc
          · exact k3 i (by omega) h7 h8
        | true =>
          rw [hc] at hz
          rw [Bool.and_eq_true] at hc
          obtain ⟨c1, c2⟩ := hc
          have c1 := conB_iff.1 c1
          have c2 : conB out (m : Int) = false := by simpa using c2
          have hf := free_more (out := out) hm c2
          have hn : (m : Int) ∉ out := fun h => by have := conB_iff.2 h; rw [c2] at this; cases this
          have s : Sw (readsOf l) l.length a out q (out ++ [(m : Int)]) (q ++ [(m : Int)]) :=
            { nd := fun h => by
                rw [List.nodup_append]
                refine ⟨h, by simp, fun x hx y hy => ?_⟩
                rw [List.mem_singleton] at hy
                subst hy
                exact fun e => hn (e ▸ hx)
              ok := fun h z hz => by
                rcases List.mem_append.1 hz with hz | hz
                · exact h z hz
                · rw [List.mem_singleton] at hz
                  subst hz
                  refine ⟨m, rfl, ?_⟩
                  rcases ht with rfl | ⟨i, rfl, hi⟩
                  · exact .base hm c1
                  · exact .step hm c1 hi
              mono := fun z hz => List.mem_append.2 (.inl hz)
              qm := fun z hz => by
                rcases List.mem_append.1 hz with hz | hz
                · exact .inl hz
                · exact .inr (List.mem_append.2 (.inr hz))
              qq := fun z hz => List.mem_append.2 (.inl hz)
              new := fun z hz => by
                rcases List.mem_append.1 hz with hz | hz
                · exact .inl hz
                · exact .inr (List.mem_append.2 (.inr hz))
              fr := by simp; omega
              ln := by simp; omega }
          have q1 := s.fr
          have q2 := s.ln
          obtain ⟨o', q', k1, k2, k3⟩ := ih (m + 1) j (out ++ [(m : Int)]) (q ++ [(m : Int)]) (by omega) (by omega) (by omega) (by omega) (by omega)
          refine ⟨o', q', hz.trans k1, s.trans k2, fun i h6 h7 h8 => ?_⟩
          by_cases e : i = m
          · subst e; exact k2.mono _ (by simp)
          · exact k3 i (by omega) h7 h8
      refine g ?_
      have hb1 : ∀ {β : Type} {f : _ → Option β}, (F35 k (readsOf l m, t0, ())).bind f = f ((conB (readsOf l m) t0, ()), ()) := fun {β f} => by rw [f1]; rfl
      have hb2 : ∀ {β : Type} {f : _ → Option β}, (F35 k (out, (m : Int), ())).bind f = f ((conB out (m : Int), ()), ()) := fun {β f} => by rw [f2]; rfl
      rw [hb1]
      dsimp only
      have e2 : decide ((out.length + [(m : Int)].length) * (7 + 1) ≤ 140737488355328) = true := decide_eq_true (by simp; omega)
      have e3 : decide (((t0 :: q).length + [(m : Int)].length) * (7 + 1) ≤ 140737488355328) = true := decide_eq_true (by simp; omega)
      cases hc1 : conB (readsOf l m) t0 with
      | false => rfl
      | true =>
        simp only [cond_true, Bool.true_and]
        rw [hb2]
        dsimp only
        cases hc2 : conB out (m : Int) with
        | true => rfl
        | false =>
          show (bif decide ((out.length + [(m : Int)].length) * (7 + 1) ≤ 140737488355328) then bif decide (((t0 :: q).length + [(m : Int)].length) * (7 + 1) ≤ 140737488355328) then _ else none else none) = _
          rw [e2, e3]
          rfl
theorem E19_0_spec {a : Nat} (ha : a < l.length) : ∀ (j : Nat) (out todo : List Int), todo.length + free l.length out < j → out.Nodup → (∀ z, z ∈ out → okZ (readsOf l) l.length a z) → (∀ z, z ∈ todo → z = (a : Int) ∨ z ∈ out) →
    (∀ z : Nat, (z = a ∨ (z : Int) ∈ out) → (z : Int) ∈ todo ∨ ∀ i, i < l.length → (z : Int) ∈ readsOf l i → (i : Int) ∈ out) → out.length + free l.length out ≤ l.length → todo.length + free l.length out ≤ 50 →
    ∃ out', E19_0 k j (edgesB l, out, todo, ()) = some (Sum.inl (out', ())) ∧ out'.Nodup ∧ out'.length ≤ l.length ∧ ∀ z, z ∈ out' ↔ ∃ i : Nat, z = (i : Int) ∧ i < l.length ∧ rchB (readsOf l) l.length a i = true := by
  have h8 := rightE_len hr
  have hlen : (edgesB l).length = l.length := by unfold edgesB; rw [hr]; simp
  intro j
  induction j with
  | zero => intro out todo h1; omega
  | succ j ih =>
    intro out todo h1 h2 h3 h4 h5 h6 h7
    match todo with
    | [] =>
      refine ⟨out, by rw [E19_0_eq]; rfl, h2, by omega, fun z => ⟨fun hz => ?_, ?_⟩⟩
      · obtain ⟨i, rfl, hi⟩ := h3 z hz
        exact ⟨i, rfl, hi.lt, rchB_iff.2 hi⟩
      · rintro ⟨i, rfl, hi, hb⟩
        have hb := rchB_iff.1 hb
        induction hb with
        | base hi ha =>
          rcases h5 a (.inl rfl) with h | h
          · cases h
          · exact h _ hi ha
        | step hi ht hh ih' =>
          rcases h5 _ (.inr (ih' hh.lt (rchB_iff.2 hh))) with h | h
          · cases h
          · exact h _ hi ht
    | t0 :: q =>
      simp only [List.length_cons] at h1 h7
      have ht : t0 = (a : Int) ∨ okZ (readsOf l) l.length a t0 := (h4 t0 (List.mem_cons_self ..)).imp id fun h => h3 _ h
      obtain ⟨o', q', k1, k2, k3⟩ := E19_0_0_spec hl hr hk ht l.length 0 k out q (by omega) (by omega) (by omega) (by omega) (by omega)
      have hfr := k2.fr
      have hln := k2.ln
      have h0 : decide (0 < (((t0 :: q).length : Nat) : Int)) = true := decide_eq_true (by simp)
      have hin : inr 1 (((t0 :: q').length : Nat) : Int) (t0 :: q').length = true := by simp [inr]; omega
      obtain ⟨o'', g1, g2⟩ := ih o' q' (by omega) (k2.nd h2) (k2.ok h3) (fun z hz => by
          rcases k2.qm z hz with hz | hz
          · exact (h4 z (List.mem_cons_of_mem _ hz)).imp id fun h => k2.mono z h
          · exact .inr hz) (fun z hz => by
          by_cases e : (z : Int) = t0
          · subst e; exact .inr fun i hi hm => k3 i (by omega) hi hm
          · rcases hz with hz | hz
            · rcases h5 z (.inl hz) with h | h
              · rcases List.mem_cons.1 h with h | h
                · exact absurd h e
                · exact .inl (k2.qq _ h)
              · exact .inr fun i hi hm => k2.mono _ (h i hi hm)
            · rcases k2.new _ hz with hz | hz
              · rcases h5 z (.inr hz) with h | h
                · rcases List.mem_cons.1 h with h | h
                  · exact absurd h e
                  · exact .inl (k2.qq _ h)
                · exact .inr fun i hi hm => k2.mono _ (h i hi hm)
              · exact .inl hz) (by omega) (by omega)
      refine ⟨o'', ?_, g2⟩
      rw [E19_0_eq, h0, hlen]
      simp only [cond_true]
      have k1 : E19_0_0 k k (edgesB l, out, t0 :: q, edgesB l, (l.length : Int), 0, ()) = _ := k1
      refine ob k1 ?_
      dsimp only
      rw [hin]
      exact g1
end
theorem cnt_all {p : Nat → Bool} : ∀ {n : Nat}, cnt p n ≤ n := fun {n} => cnt_le p n
theorem F19_spec {k : Nat} {l : List Ent} (hl : LOk k l) (hk : 2000 < k) (x : Int) : F19 k (l, x, ()) = some ((readersB l x, ()), ()) := by
  rw [F19_eq]
  refine ob (F24_spec hl) ?_
  dsimp only
  unfold readersB
  cases hr : rightE l with
  | false =>
    have e : edgesB l = [] := by unfold edgesB; rw [hr]; rfl
    rw [e]
    have : (bif decide (x < 0) then true else decide ((([] : List (List Int)).length : Int) ≤ x)) = true := by
      cases h : decide (x < 0) with
      | true => rfl
      | false => have := of_decide_eq_false h; exact decide_eq_true (by simp; omega)
    rw [this]; rfl
  | true =>
    have hlen : (edgesB l).length = l.length := by unfold edgesB; rw [hr]; simp
    rw [dec_lt x 0, hlen, show decide ((l.length : Int) ≤ x) = !decide (x < (l.length : Int)) by rw [dec_lt, Bool.not_not]]
    cases h : decide (0 ≤ x) with
    | false => rfl
    | true =>
    cases h' : decide (x < (l.length : Int)) with
    | false => rfl
    | true =>
      have h := of_decide_eq_true h
      have h' := of_decide_eq_true h'
      obtain ⟨a, rfl⟩ : ∃ i : Nat, x = (i : Int) := ⟨x.toNat, by omega⟩
      have h8 := rightE_len hr
      have hf : free l.length [] ≤ l.length := cnt_le _ _
      obtain ⟨o, g1, g2, g3, g4⟩ := E19_0_spec hl hr hk (a := a) (by omega) k [] [(a : Int)] (by simp; omega) List.nodup_nil (fun z hz => by cases hz) (fun z hz => by rw [List.mem_singleton] at hz; exact .inl hz) (fun z hz => by
        rcases hz with rfl | hz
        · exact .inl (List.mem_singleton.2 rfl)
        · cases hz) (by simp; exact hf) (by simp; omega)
      simp only [Bool.not_true, cond_false]
      refine ob g1 ?_
      refine ob (F36_spec (k := k) (x := o) (by omega) hk) ?_
      dsimp only
      rw [iso_rl g2 g4]
      rfl
end Go.Pv.L16
