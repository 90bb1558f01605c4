import Derived.Test.YtfmcfigoendjiaaGreatPvL16
import Derived.Test.YtfmcfigoendjiaaGreatPvR16
/- The meanings of functions, laid open by hand: regions that draw. -/
namespace Go.Pv.L16
open Go Go.Pv Go.Proofs
set_option linter.all false
set_option linter.constructorNameAsVariable false
set_option linter.unusedSectionVars false
set_option linter.unusedVariables false
set_option linter.unusedSimpArgs false
set_option maxRecDepth 100000
def exM (x : Ex) : Ex := Ex.mk (Ex.kind x) (Ex.vk x) (Ex.vn x) (Ex.vs x) (Ex.var x) (Ex.fld x) (Ex.kids x)
def min3 (n : Nat) : Int := bif false then bif decide ((n : Int) < 3000) then 3000 else (n : Int) else bif decide (3000 < (n : Int)) then 3000 else (n : Int)
theorem E38_0_eqh (k j : Nat) (q : Ty.den T53) (n i : Ty.den T3) : E38_0 k (j + 1) ((q, ()), n, i, ()) = (
  bif bif decide (i < (q.1.length : Int)) then decide (n < 3000) else false then bif inb i q.1.length then bif inb i q.1.length then
  (E38_0_0 k k ((q, ()), IntKind.i64.wrap (IntKind.i64.wrap (n + min3 (ByteArray.size (rd T66 q.1 i).2.2.1)) + ((rd T66 q.1 i).2.1.length : Int)), i, 0, ())).bind fun y =>
    match y with
    | Sum.inl y => E38_0 k j ((y.1.1, ()), y.2.1, IntKind.i64.wrap (y.2.2.1 + 1), ())
    | Sum.inr y => nomatch y
  else none else none
  else some (Sum.inl ((q, ()), n, ()))) := by kernel_rfl
theorem E38_1_eqh (k j : Nat) (q : Ty.den T53) (n i : Ty.den T3) : E38_1 k (j + 1) ((q, ()), n, i, ()) = (
  bif bif decide (i < (q.2.1.length : Int)) then decide (n < 3000) else false then bif inb i q.2.1.length then
  (F54 k (exM (rd T86 q.2.1 i).2.1, 3000, ())).bind fun y => bif inb i q.2.1.length then
    (F54 k (exM (rd T86 q.2.1 i).2.2, 3000, ())).bind fun y1 => E38_1 k j ((q, ()), IntKind.i64.wrap (IntKind.i64.wrap (n + y.1.1) + y1.1.1), IntKind.i64.wrap (i + 1), ())
   else none
  else none
  else some (Sum.inl (n, ()))) := by kernel_rfl
end Go.Pv.L16

/- Layer 16, plainly: sizes, and that what asks for sizes answers. -/
namespace Go.Pv.L16
open Go Go.Pv Go.Proofs
set_option linter.all false
set_option linter.constructorNameAsVariable false
set_option linter.unusedSectionVars false
set_option linter.unusedVariables false
set_option linter.unusedSimpArgs false

/-- An expression's texts and rows are no longer than what there may be; it is so deep. -/
def ExT : Nat → Ex → Prop
  | 0, _ => False
  | m + 1, x => ((Ex.var x).size ≤ 140737488351232 ∧ (Ex.fld x).size ≤ 140737488351232 ∧ (Ex.vs x).size ≤ 140737488351232 ∧ (Ex.kids x).length ≤ 140737488351232) ∧ ∀ y, y ∈ Ex.kids x → ExT m y
theorem ExT.succ : ∀ {m : Nat} {x : Ex}, ExT m x → ExT (m + 1) x
  | 0, x, h => h.elim
  | m + 1, x, h => ⟨h.1, fun y hy => (h.2 y hy).succ⟩
theorem ExT.le {m n : Nat} (hmn : m ≤ n) {x : Ex} (h : ExT m x) : ExT n x := by
  induction hmn with
  | refl => exact h
  | step _ ih => exact ih.succ
theorem ExT.all {l : List Ex} (h : ∀ y, y ∈ l → ∃ n, ExT n y) : ∃ n, ∀ y, y ∈ l → ExT n y := by
  induction l with
  | nil => exact ⟨0, fun y hy => by cases hy⟩
  | cons a l ih =>
    obtain ⟨n, hn⟩ := ih fun y hy => h y (List.mem_cons_of_mem _ hy)
    obtain ⟨m, hm⟩ := h a (List.mem_cons_self ..)
    refine ⟨max m n, fun y hy => ?_⟩
    rcases List.mem_cons.1 hy with rfl | hy
    · exact hm.le (Nat.le_max_left _ _)
    · exact (hn y hy).le (Nat.le_max_right _ _)
theorem ExOk.depth {x : Ex} (h : ExOk x) : ∃ n, ExT n x := by
  induction h with
  | mk kind vk vn vs v f kids h1 h2 h3 h4 h5 h6 h7 h8 ih =>
    obtain ⟨n, hn⟩ := ExT.all ih
    exact ⟨n + 1, ⟨h5, h6, h4, h7⟩, hn⟩
theorem ExT.sizes {k : Nat} (hk : 140737488351232 < k) : ∀ {m n : Nat} {x : Ex}, ExT n x → ExS k m x
  | 0, n, x, h => trivial
  | m + 1, 0, x, h => h.elim
  | m + 1, n + 1, x, h => by
    obtain ⟨⟨h1, h2, h3, h4⟩, h5⟩ := h
    exact ⟨by omega, by omega, by omega, fun y hy => (h5 y hy).sizes hk⟩

theorem E54_0_total {k : Nat} {s54 : shsDen I54 → Option (shsDen O54 × shsDen (shsUpd I54))} {x : Ex} (hx : (Ex.kids x).length ≤ 140737488351232) (hs : ∀ y, y ∈ Ex.kids x → ∀ n : Int, ∃ r, s54 (y, n, ()) = some ((r, ()), ())) (most : Int) :
    ∀ (d i j : Nat) (n : Int), (Ex.kids x).length - i = d → i ≤ (Ex.kids x).length → d < j → ∃ r, E54_0 k s54 j (most, (x, ()), n, (i : Int), ()) = some (Sum.inl (r, ())) := by
  intro d
  induction d with
  | zero =>
    intro i j n h1 h2 h3
    have : i = (Ex.kids x).length := by omega
    subst this
    match j, h3 with
    | j + 1, _ => rw [E54_0_eq, nlt_nat]; exact ⟨_, rfl⟩
  | succ d ih =>
    intro i j n h1 h2 h3
    match j, h3 with
    | j + 1, h3 =>
      have hi : i < (Ex.kids x).length := by omega
      rw [E54_0_eq, lt_nat hi, inb_nat hi, wrap_nat (by omega), Ex.eta, Ex.eta]
      rw [rd_get (e := .ex) hi]
      cases decide (n < most) with
      | false => exact ⟨_, rfl⟩
      | true =>
        obtain ⟨r, hr⟩ := hs _ (List.getElem_mem hi) (IntKind.i64.wrap (most - n))
        rw [hr]
        obtain ⟨r', hr'⟩ := ih (i + 1) j (IntKind.i64.wrap (n + r)) (by omega) (by omega) (by omega)
        rw [show (((i + 1 : Nat)) : Int) = (i : Int) + 1 by omega] at hr'
        exact ⟨r', hr'⟩
theorem R54_total {k : Nat} (hk : 140737488351232 < k) : ∀ (m d : Nat) (x : Ex) (most : Int), ExT m x → m ≤ d → ∃ r, R54 k d (x, most, ()) = some ((r, ()), ())
  | 0, d, x, most, h, _ => h.elim
  | m + 1, 0, x, most, h, hd => absurd hd (by omega)
  | m + 1, d + 1, x, most, h, hd => by
    show ∃ r, G54 k (R54 k d) (x, most, ()) = some ((r, ()), ())
    rw [G54_eq, Ex.eta]
    obtain ⟨r, hr⟩ := E54_0_total (k := k) (s54 := R54 k d) h.1.2.2.2 (fun y hy n => R54_total hk m d y n (h.2 y hy) (by omega)) most (Ex.kids x).length 0 k (IntKind.i64.wrap (IntKind.i64.wrap (IntKind.i64.wrap (1 + min3 (Ex.var x).size) + min3 (Ex.fld x).size) + min3 (Ex.vs x).size)) (by omega) (by omega) (by have := h.1.2.2.2; omega)
    have hr' : E54_0 k (R54 k d) k (most, (x, ()), IntKind.i64.wrap (IntKind.i64.wrap (IntKind.i64.wrap (1 + min3 (Ex.var x).size) + min3 (Ex.fld x).size) + min3 (Ex.vs x).size), 0, ()) = some (Sum.inl (r, ())) := hr
    unfold min3 at hr'
    rw [hr']
    exact ⟨r, rfl⟩

/-- What is known of a query: no longer, no deeper. -/
structure QT (N : Nat) (q : Qry) : Prop where
  items : q.1.length ≤ 140737488351232
  preds : q.2.1.length ≤ 140737488351232
  by_ : q.2.2.2.1.size ≤ 140737488351232
  item : ∀ x, x ∈ q.1 → x.2.2.1.size ≤ 140737488351232 ∧ x.2.1.length ≤ 140737488351232 ∧ ∀ s, s ∈ x.2.1 → s.size ≤ 140737488351232
  pred : ∀ p, p ∈ q.2.1 → ExT N p.2.1 ∧ ExT N p.2.2
theorem QT.ok {N k : Nat} {q : Qry} (h : QT N q) (hk : 140737488351232 < k) : QOk k q := by
  obtain ⟨h1, h2, h3, h4, h5⟩ := h
  refine ⟨by omega, by omega, by omega, by omega, fun x hx => ?_, fun p hp => ⟨(h5 p hp).1.sizes hk, (h5 p hp).2.sizes hk⟩⟩
  obtain ⟨q1, q2, q3⟩ := h4 x hx
  exact ⟨by omega, by omega, fun s hs => by have := q3 s hs; omega⟩
theorem qt_of {q : Qry} (h : T53.ok q) : ∃ N, QT N q := by
  obtain ⟨h1, h2, h3, h4, h5⟩ := h
  have hp : ∃ N, ∀ p, p ∈ (q.2.1 : List Prd) → ExT N p.2.1 ∧ ExT N p.2.2 := by
    have key : ∀ l : List Prd, (∀ p, p ∈ l → ExOk p.2.1 ∧ ExOk p.2.2) → ∃ N, ∀ p, p ∈ l → ExT N p.2.1 ∧ ExT N p.2.2 := by
      intro l
      induction l with
      | nil => exact fun _ => ⟨0, fun p hp => by cases hp⟩
      | cons a l ih =>
        intro hl
        obtain ⟨n, hn⟩ := ih fun p hp => hl p (List.mem_cons_of_mem _ hp)
        obtain ⟨a1, a2⟩ := hl a (List.mem_cons_self ..)
        obtain ⟨m1, hm1⟩ := ExOk.depth a1
        obtain ⟨m2, hm2⟩ := ExOk.depth a2
        refine ⟨m1 + m2 + n, fun p hp => ?_⟩
        rcases List.mem_cons.1 hp with rfl | hp
        · exact ⟨hm1.le (by omega), hm2.le (by omega)⟩
        · exact ⟨(hn p hp).1.le (by omega), (hn p hp).2.le (by omega)⟩
    exact key q.2.1 fun p hp => (h2.2 p hp).2
  obtain ⟨N, hN⟩ := hp
  refine ⟨N, h1.1, h2.1, h4, fun x hx => ?_, hN⟩
  obtain ⟨_, b2, b3, _⟩ := h1.2 x hx
  exact ⟨b3, b2.1, b2.2⟩

section
variable {k N : Nat} {q : Qry} (hq : QT N q) (hk : 140737488351232 < k)
include hq hk
theorem E38_0_0_total {i : Nat} (hi : i < q.1.length) : ∀ (d m j : Nat) (n : Int), (itmAt q.1 i).2.1.length - m = d → m ≤ (itmAt q.1 i).2.1.length → d < j → ∃ r, E38_0_0 k j ((q, ()), n, (i : Int), (m : Int), ()) = some (Sum.inl ((q, ()), r, (i : Int), ())) := by
  obtain ⟨q1, q2, q3⟩ := hq.item _ (itmAt_mem hi)
  intro d
  induction d with
  | zero =>
    intro m j n h1 h2 h3
    have : m = (itmAt q.1 i).2.1.length := by omega
    subst this
    match j, h3 with
    | j + 1, _ =>
      rw [E38_0_0_eq, inb_nat hi, rd_nat]
      show ∃ r, (bif true then bif bif decide (((itmAt q.1 i).2.1.length : Int) < ((itmAt q.1 i).2.1.length : Int)) then decide (n < 3000) else false then _ else some (Sum.inl ((q, ()), n, (i : Int), ())) else none) = _
      rw [nlt_nat]; exact ⟨_, rfl⟩
  | succ d ih =>
    intro m j n h1 h2 h3
    match j, h3 with
    | j + 1, h3 =>
      have hm : m < (itmAt q.1 i).2.1.length := by omega
      rw [E38_0_0_eq, inb_nat hi, rd_nat, wrap_nat (by omega)]
      cases hn : decide (n < 3000) with
      | false =>
        refine ⟨n, ?_⟩
        cases decide ((m : Int) < (List.length (q.1.getD i (Ty.dflt T66)).2.1 : Int)) <;> rfl
      | true =>
        obtain ⟨r, hr⟩ := ih (m + 1) j (IntKind.i64.wrap (n + min3 (ByteArray.size (rd Ty.s (itmAt q.1 i).2.1 (m : Int))))) (by omega) (by omega) (by omega)
        rw [show (((m + 1 : Nat)) : Int) = (m : Int) + 1 by omega] at hr
        refine ⟨r, ?_⟩
        rw [← hr]
        show (bif true then bif bif decide ((m : Int) < ((itmAt q.1 i).2.1.length : Int)) then true else false then bif true then bif inb (m : Int) (itmAt q.1 i).2.1.length then _ else none else none else _ else none) = _
        rw [lt_nat hm, inb_nat hm]
        rfl

theorem E38_0_total : ∀ (d i j : Nat) (n : Int), q.1.length - i = d → i ≤ q.1.length → d < j → ∃ r, E38_0 k j ((q, ()), n, (i : Int), ()) = some (Sum.inl ((q, ()), r, ())) := by
  intro d
  induction d with
  | zero =>
    intro i j n h1 h2 h3
    have : i = q.1.length := by omega
    subst this
    match j, h3 with
    | j + 1, _ => rw [E38_0_eqh, nlt_nat]; exact ⟨_, rfl⟩
  | succ d ih =>
    intro i j n h1 h2 h3
    match j, h3 with
    | j + 1, h3 =>
      have hi : i < q.1.length := by omega
      rw [E38_0_eqh, lt_nat hi, inb_nat hi]
      cases decide (n < 3000) with
      | false => exact ⟨_, rfl⟩
      | true =>
        obtain ⟨r, hr⟩ := E38_0_0_total hq hk hi (itmAt q.1 i).2.1.length 0 k (IntKind.i64.wrap (IntKind.i64.wrap (n + min3 (ByteArray.size (rd T66 q.1 i).2.2.1)) + ((rd T66 q.1 i).2.1.length : Int))) (by omega) (by omega) (by have := (hq.item _ (itmAt_mem hi)).2.1; omega)
        obtain ⟨r', hr'⟩ := ih (i + 1) j r (by omega) (by omega) (by omega)
        have hr : E38_0_0 k k ((q, ()), IntKind.i64.wrap (IntKind.i64.wrap (n + min3 (ByteArray.size (rd T66 q.1 i).2.2.1)) + ((rd T66 q.1 i).2.1.length : Int)), (i : Int), 0, ()) = _ := hr
        rw [hr]
        show ∃ r, E38_0 k j ((q, ()), _, IntKind.i64.wrap ((i : Int) + 1), ()) = _
        rw [wrap_nat (by have := hq.items; omega)]
        rw [show (((i + 1 : Nat)) : Int) = (i : Int) + 1 by omega] at hr'
        exact ⟨r', hr'⟩

theorem E38_1_total (hkN : N ≤ k) : ∀ (d i j : Nat) (n : Int), q.2.1.length - i = d → i ≤ q.2.1.length → d < j → ∃ r, E38_1 k j ((q, ()), n, (i : Int), ()) = some (Sum.inl (r, ())) := by
  intro d
  induction d with
  | zero =>
    intro i j n h1 h2 h3
    have : i = q.2.1.length := by omega
    subst this
    match j, h3 with
    | j + 1, _ => rw [E38_1_eqh, nlt_nat]; exact ⟨_, rfl⟩
  | succ d ih =>
    intro i j n h1 h2 h3
    match j, h3 with
    | j + 1, h3 =>
      have hi : i < q.2.1.length := by omega
      rw [E38_1_eqh, lt_nat hi, inb_nat hi, rd_nat]
      cases decide (n < 3000) with
      | false => exact ⟨_, rfl⟩
      | true =>
        obtain ⟨p1, p2⟩ := hq.pred _ (prdAt_mem hi)
        obtain ⟨r1, hr1⟩ := R54_total hk N k (prdAt q.2.1 i).2.1 3000 p1 hkN
        obtain ⟨r2, hr2⟩ := R54_total hk N k (prdAt q.2.1 i).2.2 3000 p2 hkN
        have hr1 : F54 k (exM (List.getD q.2.1 i (Ty.dflt T86)).2.1, 3000, ()) = some ((r1, ()), ()) := by rw [show exM (List.getD q.2.1 i (Ty.dflt T86)).2.1 = (prdAt q.2.1 i).2.1 from Ex.eta _]; exact hr1
        have hr2 : F54 k (exM (List.getD q.2.1 i (Ty.dflt T86)).2.2, 3000, ()) = some ((r2, ()), ()) := by rw [show exM (List.getD q.2.1 i (Ty.dflt T86)).2.2 = (prdAt q.2.1 i).2.2 from Ex.eta _]; exact hr2
        rw [hr1, hr2]
        obtain ⟨r', hr'⟩ := ih (i + 1) j (IntKind.i64.wrap (IntKind.i64.wrap (n + r1) + r2)) (by omega) (by omega) (by omega)
        show ∃ r, E38_1 k j ((q, ()), _, IntKind.i64.wrap ((i : Int) + 1), ()) = _
        rw [wrap_nat (by have := hq.preds; omega)]
        rw [show (((i + 1 : Nat)) : Int) = (i : Int) + 1 by omega] at hr'
        exact ⟨r', hr'⟩

theorem F38_total (hkN : N ≤ k) : ∃ b, F38 k (q, ()) = some ((b, ()), ()) := by
  rw [F38_eq]
  obtain ⟨r, hr⟩ := E38_0_total hq hk q.1.length 0 k (IntKind.i64.wrap (IntKind.i64.wrap ((q.1.length : Int) + (q.2.1.length : Int)) + min3 (ByteArray.size q.2.2.2.1))) (by omega) (by omega) (by have := hq.items; omega)
  obtain ⟨r', hr'⟩ := E38_1_total hq hk hkN q.2.1.length 0 k r (by omega) (by omega) (by have := hq.preds; omega)
  have hr : E38_0 k k ((q, ()), IntKind.i64.wrap (IntKind.i64.wrap ((q.1.length : Int) + (q.2.1.length : Int)) + min3 (ByteArray.size q.2.2.2.1)), 0, ()) = _ := hr
  unfold min3 at hr
  rw [hr]
  have hr' : E38_1 k k ((q, ()), r, 0, ()) = _ := hr'
  show ∃ b, (E38_1 k k ((q, ()), r, 0, ())).bind _ = _
  rw [hr']
  exact ⟨_, rfl⟩
end

end Go.Pv.L16

