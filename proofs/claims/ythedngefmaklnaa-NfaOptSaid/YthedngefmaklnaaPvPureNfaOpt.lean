/- Layer 12: NfaOpt, plainly. -/
import Derived.Test.YthedngefmaklnaaPvW12
import Derived.Test.YthedngefmaklnaaPvQo12
import Derived.Test.YthedngefmaklnaaPvHead12
namespace Go.Pv.L12
open Go Go.Pv Go.Proofs
set_option linter.all false
set_option linter.constructorNameAsVariable false
set_option linter.unusedSectionVars false
set_option linter.unusedVariables false
set_option linter.unusedSimpArgs false

theorem head_at5 {k : Nat} (hk : 140737488351232 < k) : F9 k () = some ((true, ()), ()) := by
  have := head_ok (k - 100)
  rwa [show k - 100 + 100 = k by omega] at this
theorem stpo {α β : Type} {x : Option α} {a : α} {f : α → Option β} {r : Option β} (h : x = some a) (g : f a = r) : x.bind f = r := by rw [h]; exact g
theorem stpoT {α β : Type} {x e : Option α} {a : α} {f : α → Option β} {r : Option β} (h : x = some a) (g : f a = r) : (bif true then x else e).bind f = r := by rw [cond_true, h]; exact g

/-- None of the names is one of the item's. -/
def noneB (x : Itm) (names : List ByteArray) : Prop := ∀ n, n ∈ names → hasB x.2.1 n = false
theorem ent_none {x : Itm} {w : List ByteArray → Bool} : ∀ names, noneB x names → entB x w names = false
  | [], _ => rfl
  | n :: r, h => by
    unfold entB
    rw [h n List.mem_cons_self, Bool.false_and]
theorem ent_congrN {x y : Itm} {w w' : List ByteArray → Bool} (h : ∀ r, noneB x r → w r = w' r) : ∀ r, noneB x r → entB y w r = entB y w' r
  | [], _ => rfl
  | n :: r, hn => by
    have hr : noneB x r := fun m hm => hn m (List.mem_cons_of_mem _ hm)
    unfold entB
    rw [h r hr, ent_congrN h r hr]
theorem way_opt {x : Itm} (hx : decide (x.2.2.2 = (3 : Int)) = true) : ∀ (a b : List Itm) (names : List ByteArray), noneB x names → wayB (a ++ x :: b) names = wayB (a ++ b) names
  | [], b, names, h => by
    show (bif x.1 then wayB b names else ((decide (x.2.2.2 = 3) && wayB b names) || entB x (wayB b) names)) = wayB b names
    rw [hx, ent_none names h]
    cases x.1 <;> simp
  | y :: a, b, names, h => by
    show (bif y.1 then wayB (a ++ x :: b) names else ((decide (y.2.2.2 = 3) && wayB (a ++ x :: b) names) || entB y (wayB (a ++ x :: b)) names)) = (bif y.1 then wayB (a ++ b) names else ((decide (y.2.2.2 = 3) && wayB (a ++ b) names) || entB y (wayB (a ++ b)) names))
    rw [way_opt hx a b names h, ent_congrN (w' := wayB (a ++ b)) (way_opt hx a b) names h]

theorem opt_accepts {q : Qry} (h : rightB q = true) {i : Nat} (hi : i < q.1.length) (hm : decide ((itmAt q.1 i).2.2.2 = (3 : Int)) = true) {names : List ByteArray} (hn : noneB (itmAt q.1 i) names) :
    rightB (q.1.take i ++ q.1.drop (i + 1), [], q.2.2.1, q.2.2.2.1, q.2.2.2.2) = true ∧ acceptsB (q.1.take i ++ q.1.drop (i + 1), [], q.2.2.1, q.2.2.2.1, q.2.2.2.2) names = acceptsB q names := by
  obtain ⟨y, r, hq, h1, h2⟩ := right_first h
  have hi0 : i ≠ 0 := fun e => by
    subst e
    rw [hq] at hm
    have : itmAt (y :: r) 0 = y := rfl
    rw [this, h2] at hm
    cases hm
  obtain ⟨p, rfl⟩ : ∃ p, i = p + 1 := ⟨i - 1, by omega⟩
  have hp : p < r.length := by rw [hq, List.length_cons] at hi; omega
  have hsplit : r = r.take p ++ itmAt q.1 (p + 1) :: r.drop (p + 1) := by
    have e : itmAt q.1 (p + 1) = itmAt r p := by rw [hq]; rfl
    rw [e, ← drop_at hp, List.take_append_drop]
  have hit : q.1.take (p + 1) ++ q.1.drop (p + 1 + 1) = y :: (r.take p ++ r.drop (p + 1)) := by rw [hq]; rfl
  have hsub : (y :: (r.take p ++ r.drop (p + 1))).Sublist q.1 := by
    rw [hq]
    refine List.Sublist.cons_cons y ?_
    have : (r.take p ++ r.drop (p + 1)).Sublist (r.take p ++ r.drop p) := List.Sublist.append_left (List.drop_sublist_drop_left r (Nat.le_succ p)) _
    rwa [List.take_append_drop] at this
  rw [hit]
  have hr : rightB (y :: (r.take p ++ r.drop (p + 1)), [], q.2.2.1, q.2.2.2.1, q.2.2.2.2) = true := right_sub h hsub (by rw [hq]; rfl)
  refine ⟨hr, ?_⟩
  rw [accepts_ent hr, accepts_ent h]
  have e1 : q.1.drop 1 = r := by rw [hq]; rfl
  have e2 : itmAt q.1 0 = y := by rw [hq]; rfl
  rw [e1, e2]
  show entB y (wayB (r.take p ++ r.drop (p + 1))) names = entB y (wayB r) names
  refine ent_congrN (x := itmAt q.1 (p + 1)) (fun s hs => ?_) names hn
  rw [← way_opt hm (r.take p) (r.drop (p + 1)) s hs, ← hsplit]

theorem E8_0_spec {k : Nat} {q : Qry} (hq : QOk k q) {names : List ByteArray} (hn : names.length < min k 9223372036854775807) (up : Bool) {i : Nat} (hi : i < q.1.length) :
    E8_0 k k (names, (q, ()), up, (i : Int), 0, ()) = some (bif anyR (fun m => hasB (itmAt q.1 i).2.1 (names.getD m ByteArray.empty)) 0 names.length then Sum.inr (Sum.inl (up, ())) else Sum.inl (names, (q, ()), up, (i : Int), ())) := by
  refine scan0 (E := fun j m => E8_0 k j (names, (q, ()), up, (i : Int), m, ())) (fun j m hm => ?_) (fun j => ?_) (by omega)
  · dsimp only
    have hit : rd (Ty.b.p (Ty.s.l.p (Ty.s.p (Ty.i IntKind.i64)))) q.1 (i : Int) = itmAt q.1 i := rd_nat q.1 i
    have hnm : rd Ty.s names (m : Int) = names.getD m ByteArray.empty := rd_nat (e := .s) names m
    have h18 := F18_spec (k := k) (x := itmAt q.1 i) (s := names.getD m ByteArray.empty) (hq.2.2.2.2.1 _ (itmAt_mem hi)).2.1
    rw [E8_0_eq, lt_nat hm, inb_nat hi, inb_nat hm, hit, hnm, h18, wrap_nat (by omega)]
    rfl
  · dsimp only
    rw [E8_0_eq, nlt_nat]; rfl

theorem PureNfaOpt (x : shsDen (argSh [T25, T26, T5])) (hok : okAll [T25, T26, T5] x) : ∃ k z, F8 k x = some ((true, ()), z) := by
  obtain ⟨q, names, at_, u⟩ := x
  obtain ⟨ok1, ok2, _⟩ := hok
  have ok1 : T25.ok q := ok1
  have ok2 : T26.ok names := ok2
  obtain ⟨N, hT⟩ := qt_of ok1
  have hnl : names.length ≤ 140737488351232 := ok2.1
  refine ⟨140737488351232 + 3000 + N, (), ?_⟩
  generalize hkk : 140737488351232 + 3000 + N = k
  have hk : 140737488351232 < k := by omega
  have hq := hT.ok hk
  obtain ⟨b1, h10⟩ := F10_total hT hk (by omega)
  obtain ⟨b2, h11⟩ := F11_total hk hnl
  show F8 k (q, names, at_, ()) = _
  rw [F8_eq]
  refine stpo (head_at5 hk) ?_
  refine stpo h10 ?_
  cases b1 with
  | true => rfl
  | false =>
    refine stpo (a := ((b2, ()), ())) h11 ?_
    cases b2 with
    | true => rfl
    | false =>
      refine stpoT (a := ((rightB q, ()), ())) (F17_spec hq) ?_
      cases hr : rightB q with
      | false => rfl
      | true =>
        obtain ⟨l1, l2⟩ := right_len hr
        have a1 := at_.toNat_lt
        have hmod : (IntKind.i64.wrap ((at_.toNat : Nat) : Int)).tmod (q.1.length : Int) = ((at_.toNat % q.1.length : Nat) : Int) := by
          rw [wrap_le (by omega) (by omega)]
          exact (Int.ofNat_tmod _ _).symm
        have hi : at_.toNat % q.1.length < q.1.length := Nat.mod_lt _ (by omega)
        have h0 : decide ((q.1.length : Int) = 0) = false := decide_eq_false (by omega)
        dsimp only
        simp only [Bool.not_false, Bool.not_true, Bool.cond_false_right, Bool.cond_true_left, cond_false, cond_true, Bool.or_false, h0]
        rw [hmod]
        generalize hig : at_.toNat % q.1.length = i at hi
        have hit : rd (Ty.b.p (Ty.s.l.p (Ty.s.p (Ty.i IntKind.i64)))) q.1 (i : Int) = itmAt q.1 i := rd_nat q.1 i
        rw [inb_nat hi, hit]
        cases hm : decide ((itmAt q.1 i).2.2.2 = (3 : Int)) with
        | false => rfl
        | true =>
          have e8 := E8_0_spec (k := k) hq (names := names) (by omega) true hi
          rw [cond_true]
          refine stpo (a := _) e8 ?_
          cases ha : anyR (fun m => hasB (itmAt q.1 i).2.1 (names.getD m ByteArray.empty)) 0 names.length with
          | true => rfl
          | false =>
            have hn : noneB (itmAt q.1 i) names := fun n hn => by
              obtain ⟨m, hm', rfl⟩ := List.getElem_of_mem hn
              cases hb : hasB (itmAt q.1 i).2.1 names[m] with
              | false => rfl
              | true =>
                have : anyR (fun m => hasB (itmAt q.1 i).2.1 (names.getD m ByteArray.empty)) 0 names.length = true := anyR_iff.2 ⟨m, Nat.zero_le _, hm', by rw [List.getD_eq_getElem?_getD, List.getElem?_eq_getElem hm']; exact hb⟩
                rw [ha] at this; cases this
            obtain ⟨n1, n2⟩ := opt_accepts hr hi hm hn
            have x1 : ext 0 (i : Int) q.1 = q.1.take i := by
              unfold ext
              rw [show ((i : Int)).toNat = i by omega]; rfl
            have x2 : ext ((i : Int) + 1) (q.1.length : Int) q.1 = q.1.drop (i + 1) := by
              unfold ext
              rw [show ((q.1.length : Int)).toNat = q.1.length by omega, show ((i : Int) + 1).toNat = i + 1 by omega, List.take_length]
            have r1 : inr 0 (i : Int) q.1.length = true := by simp [inr]; omega
            have r2 : inr ((i : Int) + 1) (q.1.length : Int) q.1.length = true := by simp [inr]; omega
            have t1 : (q.1.take i).length ≤ 6 := by rw [List.length_take]; omega
            have t2 : (q.1.drop (i + 1)).length ≤ 6 := by rw [List.length_drop]; omega
            have b1 : decide ((([] : List (Ty.den T38)).length + (q.1.take i).length) * (55 + 1) ≤ 140737488355328) = true := decide_eq_true (by rw [List.length_nil]; omega)
            have b2 : decide ((([] ++ q.1.take i).length + (q.1.drop (i + 1)).length) * (55 + 1) ≤ 140737488355328) = true := decide_eq_true (by rw [List.nil_append]; omega)
            have f1 := F15_spec (k := k) (q := (q.1.take i ++ q.1.drop (i + 1), [], q.2.2.1, q.2.2.2.1, q.2.2.2.2)) ⟨hq.1, by (show (q.1.take i ++ q.1.drop (i + 1)).length < _); rw [List.length_append]; omega, by (show 0 < _); omega, hq.2.2.2.1, fun x hx => hq.2.2.2.2.1 x (by
              rcases List.mem_append.1 hx with h | h
              · exact List.mem_of_mem_take h
              · exact List.mem_of_mem_drop h), fun p hp => (by cases hp)⟩ (by omega) (names := names) (by omega)
            have f2 := F15_spec hq (by omega) (names := names) (by omega)
            rw [n2] at f1
            generalize acceptsB q names = acc at f1 f2
            dsimp only [cond_false]
            rw [wrap_nat (by omega), x1, x2, r1, r2, cond_true, cond_true, b1, b2, cond_true, cond_true, List.nil_append]
            refine stpoT (a := ((acc, ()), ())) f1 ?_
            refine stpoT (a := ((acc, ()), ())) f2 ?_
            show some ((decide (acc = acc), ()), ()) = _
            rw [decide_eq_true rfl]
            rfl
end Go.Pv.L12
