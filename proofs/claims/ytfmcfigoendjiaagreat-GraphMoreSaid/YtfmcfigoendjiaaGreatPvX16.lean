/- Layer 16, plainly: names that are read. -/
import Derived.Test.YtfmcfigoendjiaaGreatPvV16
namespace Go.Pv.L16
open Go Go.Pv Go.Proofs
set_option linter.all false
set_option linter.constructorNameAsVariable false
set_option linter.unusedSectionVars false
set_option linter.unusedVariables false
set_option linter.unusedSimpArgs false

theorem scanI {X : Type} {E : Nat → Int → Option X} {n : Nat} {p : Nat → Bool} {f : Nat → X} {b : X} (h : ∀ j (i : Nat), i < n → E (j + 1) (i : Int) = bif p i then some (f i) else E j ((i : Int) + 1))
    (hend : ∀ j, E (j + 1) (n : Int) = some b) : ∀ (d i j : Nat), n - i = d → i ≤ n → d < j → (anyR p i n = true → ∃ m, p m = true ∧ m < n ∧ E j (i : Int) = some (f m)) ∧ (anyR p i n = false → E j (i : Int) = some b) := by
  intro d
  induction d with
  | zero =>
    intro i j h1 h2 h3
    have : i = n := by omega
    subst this
    match j, h3 with
    | j + 1, _ => rw [hend, anyR_end]; exact ⟨fun e => (by cases e), fun _ => rfl⟩
  | succ d ih =>
    intro i j h1 h2 h3
    match j, h3 with
    | j + 1, h3 =>
      have hlt : i < n := by omega
      have ih := ih (i + 1) j (by omega) (by omega) (by omega)
      rw [show (((i + 1 : Nat)) : Int) = (i : Int) + 1 by omega] at ih
      rw [h j i hlt, anyR_step p hlt]
      cases hp : p i with
      | true => exact ⟨fun _ => ⟨i, hp, hlt, rfl⟩, fun e => (by cases e)⟩
      | false => simpa using ih

theorem any_anyR {α : Type} (l : List α) (p : α → Bool) (d : α) : l.any p = anyR (fun i => p (l.getD i d)) 0 l.length := by
  rw [Bool.eq_iff_iff, List.any_eq_true, anyR_iff]
  constructor
  · rintro ⟨x, hx, hp⟩
    obtain ⟨i, h1, h2⟩ := List.mem_iff_getElem.1 hx
    exact ⟨i, Nat.zero_le _, h1, by rw [List.getD_eq_getElem?_getD, List.getElem?_eq_getElem h1]; simpa [h2] using hp⟩
  · rintro ⟨i, _, h1, hp⟩
    rw [List.getD_eq_getElem?_getD, List.getElem?_eq_getElem h1] at hp
    exact ⟨l[i], List.getElem_mem h1, hp⟩

def hasB (l : List ByteArray) (s : ByteArray) : Bool := l.any fun x => decide (x = s)

theorem F59_spec {k : Nat} {l : List ByteArray} {s : ByteArray} (hl : l.length < min k 9223372036854775807) : F59 k (l, s, ()) = some ((hasB l s, ()), ()) := by
  have hE := scanI (E := fun j i => E95_0 k j (l, s, (l.length : Int), i, ())) (n := l.length) (p := fun i => decide (l.getD i ByteArray.empty = s)) (f := fun i => Sum.inr (Sum.inl ((i : Int), ()))) (b := Sum.inl ()) (fun j i hi => by
      dsimp only
      rw [E95_0_eq, lt_nat hi, inb_nat hi, wrap_nat (by omega), rd_nat]
      rw [show decide (s = List.getD l i (Ty.dflt Ty.s)) = decide (l.getD i ByteArray.empty = s) from decide_eq_decide.2 ⟨Eq.symm, Eq.symm⟩]
      rfl)
    (fun j => by dsimp only; rw [E95_0_eq, nlt_nat]; rfl) l.length 0 k (by omega) (by omega) (by omega)
  rw [F59_eq, F95_eq]
  unfold hasB
  rw [any_anyR l (fun x => decide (x = s)) ByteArray.empty]
  cases ha : anyR (fun i => decide (l.getD i ByteArray.empty = s)) 0 l.length with
  | true =>
    obtain ⟨m, _, _, hm⟩ := hE.1 ha
    have hm : E95_0 k k (l, s, (l.length : Int), 0, ()) = some (Sum.inr (Sum.inl ((m : Int), ()))) := hm
    rw [hm]
    show some ((decide (0 ≤ (m : Int)), ()), ()) = _
    rw [decide_eq_true (by omega : 0 ≤ (m : Int))]
  | false =>
    have hm : E95_0 k k (l, s, (l.length : Int), 0, ()) = some (Sum.inl ()) := hE.2 ha
    rw [hm]
    rfl

theorem F47_spec {k : Nat} {x : Itm} {s : ByteArray} (hl : x.2.1.length < min k 9223372036854775807) : F47 k (x, s, ()) = some ((hasB x.2.1 s, ()), ()) := by
  have hE : E47_0 k k (s, (x, ()), 0, ()) = some (bif anyR (fun i => decide (x.2.1.getD i ByteArray.empty = s)) 0 x.2.1.length then Sum.inr (Sum.inl (true, ())) else Sum.inl ()) := by
    refine scan0 (E := fun j i => E47_0 k j (s, (x, ()), i, ())) (fun j i hi => ?_) (fun j => ?_) (by omega)
    · dsimp only
      rw [E47_0_eq, lt_nat hi, inb_nat hi, wrap_nat (by omega), rd_nat]
      rfl
    · dsimp only
      rw [E47_0_eq, nlt_nat]; rfl
  rw [F47_eq, hE]
  unfold hasB
  rw [any_anyR x.2.1 (fun x => decide (x = s)) ByteArray.empty]
  cases anyR (fun i => decide (x.2.1.getD i ByteArray.empty = s)) 0 x.2.1.length <;> rfl


def itemsHas (l : List Itm) (s : ByteArray) : Bool := l.any fun x => hasB x.2.1 s
def namedB (e : Ent) (s : ByteArray) : Bool := e.2.any fun v => itemsHas v.2.2.1 s

theorem rd66 (l : List Itm) (i : Nat) : rd (Ty.b.p (Ty.s.l.p (Ty.s.p (Ty.i IntKind.i64)))) l (i : Int) = itmAt l i := rd_nat l i
theorem rd57 (l : List Ver) (i : Nat) : rd ((Ty.i IntKind.i64).p (Ty.b.p ((Ty.b.p (Ty.s.l.p (Ty.s.p (Ty.i IntKind.i64)))).l.p (((Ty.i IntKind.i64).p (Ty.ex.p Ty.ex)).l.p ((Ty.i IntKind.i64).p (Ty.s.p (Ty.i IntKind.i64))))))) l (i : Int) = verAt l i := rd_nat l i

section
variable {k : Nat} {s : ByteArray}
theorem F58_spec {x : Itm} (hx : ItemOk k x) : F58 k (x, (s, ()), ()) = some ((hasB x.2.1 s, ()), ()) := by
  rw [F58_eq, F59_spec hx.2.1]; rfl
theorem F57_spec {l : List Itm} (hl : l.length < min k 9223372036854775807) (hx : ∀ x, x ∈ l → ItemOk k x) : F57 k (l, (), (s, ()), ()) = some ((itemsHas l s, ()), ()) := by
  have hE := scanI (E := fun j i => E94_0 k j (l, (), (s, ()), (l.length : Int), i, ())) (n := l.length) (p := fun i => hasB (itmAt l i).2.1 s) (f := fun i => Sum.inr (Sum.inl ((i : Int), ()))) (b := Sum.inl ()) (fun j i hi => by
      dsimp only
      rw [E94_0_eq, lt_nat hi, inb_nat hi, wrap_nat (by omega), rd66, F58_spec (hx _ (itmAt_mem hi))]
      rfl)
    (fun j => by dsimp only; rw [E94_0_eq, nlt_nat]; rfl) l.length 0 k (by omega) (by omega) (by omega)
  rw [F57_eq, F94_eq]
  unfold itemsHas
  rw [any_anyR l (fun x => hasB x.2.1 s) (Ty.dflt T66)]
  cases ha : anyR (fun i => hasB (itmAt l i).2.1 s) 0 l.length with
  | true =>
    obtain ⟨m, _, _, hm⟩ := hE.1 ha
    have hm : E94_0 k k (l, (), (s, ()), (l.length : Int), 0, ()) = some (Sum.inr (Sum.inl ((m : Int), ()))) := hm
    have ha : anyR (fun i => hasB (List.getD l i (Ty.dflt T66)).2.1 s) 0 l.length = true := ha
    rw [hm, ha]
    show some ((decide (0 ≤ (m : Int)), ()), ()) = _
    rw [decide_eq_true (by omega : 0 ≤ (m : Int))]
  | false =>
    have hm : E94_0 k k (l, (), (s, ()), (l.length : Int), 0, ()) = some (Sum.inl ()) := hE.2 ha
    have ha : anyR (fun i => hasB (List.getD l i (Ty.dflt T66)).2.1 s) 0 l.length = false := ha
    rw [hm, ha]
    rfl
theorem F56_spec {v : Ver} (hv : QOk k v.2.2) : F56 k (v, (s, ()), ()) = some ((itemsHas v.2.2.1 s, ()), ()) := by
  rw [F56_eq, F57_spec hv.2.1 hv.2.2.2.2.1]; rfl
theorem F55_spec {l : List Ver} (hl : VOk k l) : F55 k (l, (), (s, ()), ()) = some ((l.any fun v => itemsHas v.2.2.1 s, ()), ()) := by
  obtain ⟨h18, h1, h2⟩ := hl
  have hE := scanI (E := fun j i => E93_0 k j (l, (), (s, ()), (l.length : Int), i, ())) (n := l.length) (p := fun i => itemsHas (verAt l i).2.2.1 s) (f := fun i => Sum.inr (Sum.inl ((i : Int), ()))) (b := Sum.inl ()) (fun j i hi => by
      dsimp only
      rw [E93_0_eq, lt_nat hi, inb_nat hi, wrap_nat (by omega), rd57, F56_spec (h2 _ (verAt_mem hi))]
      rfl)
    (fun j => by dsimp only; rw [E93_0_eq, nlt_nat]; rfl) l.length 0 k (by omega) (by omega) (by omega)
  rw [F55_eq, F93_eq]
  rw [any_anyR l (fun v => itemsHas v.2.2.1 s) (Ty.dflt T57)]
  cases ha : anyR (fun i => itemsHas (verAt l i).2.2.1 s) 0 l.length with
  | true =>
    obtain ⟨m, _, _, hm⟩ := hE.1 ha
    have hm : E93_0 k k (l, (), (s, ()), (l.length : Int), 0, ()) = some (Sum.inr (Sum.inl ((m : Int), ()))) := hm
    have ha : anyR (fun i => itemsHas (List.getD l i (Ty.dflt T57)).2.2.1 s) 0 l.length = true := ha
    rw [hm, ha]
    show some ((decide (0 ≤ (m : Int)), ()), ()) = _
    rw [decide_eq_true (by omega : 0 ≤ (m : Int))]
  | false =>
    have hm : E93_0 k k (l, (), (s, ()), (l.length : Int), 0, ()) = some (Sum.inl ()) := hE.2 ha
    have ha : anyR (fun i => itemsHas (List.getD l i (Ty.dflt T57)).2.2.1 s) 0 l.length = false := ha
    rw [hm, ha]
    rfl
theorem F39_spec {e : Ent} (hl : VOk k e.2) : F39 k (e, s, ()) = some ((namedB e s, ()), ()) := by
  rw [F39_eq, F55_spec hl]; rfl

theorem F34_spec {e : Ent} (hl : VOk k e.2) : F34 k (e, s, ()) = some ((namedB e s, ()), ()) := by
  obtain ⟨h18, h1, h2⟩ := hl
  have h0 : ∀ i : Nat, ∀ q : Qry, QOk k q → E34_0_0 k k (s, (e, ()), (i : Int), (q, ()), 0, ()) = some (bif itemsHas q.1 s then Sum.inr (Sum.inl (true, ())) else Sum.inl (s, (e, ()), (i : Int), ())) := by
    intro i q hq
    unfold itemsHas
    rw [any_anyR q.1 (fun x => hasB x.2.1 s) (Ty.dflt T66)]
    refine scan0 (E := fun j m => E34_0_0 k j (s, (e, ()), (i : Int), (q, ()), m, ())) (fun j m hm => ?_) (fun j => ?_) (by have := hq.2.1; omega)
    · dsimp only
      have := hq.2.1
      rw [E34_0_0_eq, lt_nat hm, inb_nat hm, wrap_nat (by omega), rd66, F47_spec (hq.2.2.2.2.1 _ (itmAt_mem hm)).2.1]
      rfl
    · dsimp only
      rw [E34_0_0_eq, nlt_nat]; rfl
  have h : E34_0 k k (s, (e, ()), 0, ()) = some (bif namedB e s then Sum.inr (Sum.inl (true, ())) else Sum.inl ()) := by
    unfold namedB
    rw [any_anyR e.2 (fun v => itemsHas v.2.2.1 s) (Ty.dflt T57)]
    refine scan0 (E := fun j m => E34_0 k j (s, (e, ()), m, ())) (fun j i hi => ?_) (fun j => ?_) (by omega)
    · dsimp only
      rw [E34_0_eq, lt_nat hi, inb_nat hi, rd57, h0 i _ (h2 _ (verAt_mem hi))]
      rw [show List.getD e.2 i (Ty.dflt T57) = verAt e.2 i from rfl]
      cases itemsHas (verAt e.2 i).2.2.1 s with
      | true => rfl
      | false =>
        show E34_0 k j (s, (e, ()), IntKind.i64.wrap ((i : Int) + 1), ()) = _
        rw [wrap_nat (by omega)]; rfl
    · dsimp only
      rw [E34_0_eq, nlt_nat]; rfl
  rw [F34_eq, h]
  cases namedB e s <;> rfl
end

end Go.Pv.L16
