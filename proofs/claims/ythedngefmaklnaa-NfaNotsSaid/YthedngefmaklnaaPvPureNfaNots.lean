/- Layer 12: NfaNots, plainly. -/
import Derived.Test.YthedngefmaklnaaPvW12
import Derived.Test.YthedngefmaklnaaPvHead12
namespace Go.Pv.L12
open Go Go.Pv Go.Proofs
set_option linter.all false
set_option linter.constructorNameAsVariable false
set_option linter.unusedSectionVars false
set_option linter.unusedVariables false
set_option linter.unusedSimpArgs false

theorem head_at3 {k : Nat} (hk : 140737488351232 < k) : F9 k () = some ((true, ()), ()) := by
  have := head_ok (k - 100)
  rwa [show k - 100 + 100 = k by omega] at this

/-- The items that are no Nots. -/
def evB (l : List Itm) : List Itm := l.filter fun x => !x.1
theorem entB_congr (x : Itm) {w w' : List ByteArray → Bool} (h : ∀ r, w r = w' r) : ∀ r, entB x w r = entB x w' r
  | [] => rfl
  | n :: r => by
    unfold entB
    rw [h r, entB_congr x h r]
theorem way_nots : ∀ (l : List Itm) (r : List ByteArray), wayB (evB l) r = wayB l r
  | [], r => rfl
  | x :: l, r => by
    unfold evB
    cases hx : x.1 with
    | true =>
      rw [List.filter_cons_of_neg (by simp [hx])]
      show wayB (evB l) r = bif x.1 then wayB l r else _
      rw [hx, cond_true, way_nots l]
    | false =>
      rw [List.filter_cons_of_pos (by simp [hx])]
      show (bif x.1 then wayB (evB l) r else ((decide (x.2.2.2 = 3) && wayB (evB l) r) || entB x (wayB (evB l)) r)) = bif x.1 then wayB l r else ((decide (x.2.2.2 = 3) && wayB l r) || entB x (wayB l) r)
      rw [way_nots l, entB_congr x (way_nots l)]

theorem nots_accepts {q : Qry} (h : rightB q = true) (names : List ByteArray) : rightB (evB q.1, [], q.2.2.1, q.2.2.2.1, q.2.2.2.2) = true ∧ acceptsB (evB q.1, [], q.2.2.1, q.2.2.2.1, q.2.2.2.2) names = acceptsB q names := by
  obtain ⟨y, r, hq, h1, h2⟩ := right_first h
  have he : evB q.1 = y :: evB r := by
    unfold evB
    rw [hq, List.filter_cons_of_pos (by simp [h1])]
  have hr : rightB (evB q.1, [], q.2.2.1, q.2.2.2.1, q.2.2.2.2) = true := right_sub h List.filter_sublist (by rw [he, hq]; rfl)
  refine ⟨hr, ?_⟩
  rw [accepts_ent hr, accepts_ent h]
  show entB (itmAt (evB q.1) 0) (wayB ((evB q.1).drop 1)) names = _
  rw [he, hq]
  exact entB_congr y (way_nots r) names

theorem E7_0_spec {k : Nat} {q : Qry} (hq : q.1.length < min k 9223372036854775807) (hs : q.1.length ≤ 6) {names : List ByteArray} (up : Bool) (w : Int) (by_ : ByteArray) (pk : Int) : ∀ (d i j : Nat) (acc : List Itm), q.1.length - i = d → i ≤ q.1.length → d < j → acc.length ≤ i →
    E7_0 k j (names, (q, ()), up, (acc, [], w, by_, pk, ()), (i : Int), ()) = some (Sum.inl (names, (q, ()), up, (acc ++ evB (q.1.drop i), [], w, by_, pk, ()), ())) := by
  intro d
  induction d with
  | zero =>
    intro i j acc e1 e2 e3 e4
    have : i = q.1.length := by omega
    subst this
    match j, e3 with
    | j + 1, _ =>
      rw [E7_0_eq, nlt_nat, List.drop_length]
      show _ = some (Sum.inl (names, (q, ()), up, (acc ++ [], [], w, by_, pk, ()), ()))
      rw [List.append_nil]
      rfl
  | succ d ih =>
    intro i j acc e1 e2 e3 e4
    match j, e3 with
    | j + 1, e3 =>
      have hi : i < q.1.length := by omega
      have hit : rd (Ty.b.p (Ty.s.l.p (Ty.s.p (Ty.i IntKind.i64)))) q.1 (i : Int) = itmAt q.1 i := rd_nat q.1 i
      have hb : decide ((acc.length + [itmAt q.1 i].length) * (55 + 1) ≤ 140737488355328) = true := decide_eq_true (by rw [List.length_singleton]; omega)
      rw [E7_0_eq, lt_nat hi, inb_nat hi, hit, hb, wrap_nat (by omega), drop_at hi]
      unfold evB
      cases hx : (itmAt q.1 i).1 with
      | true =>
        have r1 := ih (i + 1) j acc (by omega) (by omega) (by omega) (by omega)
        rw [show (((i + 1 : Nat)) : Int) = (i : Int) + 1 by omega] at r1
        rw [List.filter_cons_of_neg (by simp [hx])]
        exact r1
      | false =>
        have r1 := ih (i + 1) j (acc ++ [itmAt q.1 i]) (by omega) (by omega) (by omega) (by rw [List.length_append, List.length_singleton]; omega)
        rw [show (((i + 1 : Nat)) : Int) = (i : Int) + 1 by omega, List.append_assoc] at r1
        rw [List.filter_cons_of_pos (by simp [hx])]
        exact r1

theorem PureNfaNots (x : shsDen (argSh [T25, T26])) (hok : okAll [T25, T26] x) : ∃ k z, F7 k x = some ((true, ()), z) := by
  obtain ⟨q, names, u⟩ := x
  obtain ⟨ok1, ok2, _⟩ := hok
  have ok1 : T25.ok q := ok1
  have ok2 : T26.ok names := ok2
  obtain ⟨N, hT⟩ := qt_of ok1
  have hnl : names.length ≤ 140737488351232 := ok2.1
  refine ⟨140737488351232 + 3000 + N, (), ?_⟩
  generalize hkk : 140737488351232 + 3000 + N = k
  have hk : 140737488351232 < k := by omega
  have hq := hT.ok hk
  obtain ⟨b1, h10⟩ := F10_total hT hk (by omega)
  obtain ⟨b2, h11⟩ := F11_total hk hnl
  show F7 k (q, names, ()) = _
  rw [F7_eq, head_at3 hk]
  show (F10 k (q, ())).bind _ = _
  rw [h10]
  cases b1 with
  | true => rfl
  | false =>
    show (F11 k (names, ())).bind _ = _
    rw [h11]
    cases b2 with
    | true => rfl
    | false =>
      show (F17 k (q, ())).bind _ = _
      rw [F17_spec hq]
      cases hr : rightB q with
      | false => rfl
      | true =>
        obtain ⟨l1, l2⟩ := right_len hr
        obtain ⟨n1, n2⟩ := nots_accepts hr names
        have s : E7_0 k k (names, (q, ()), true, ([], [], q.2.2.1, q.2.2.2.1, q.2.2.2.2, ()), 0, ()) = _ := E7_0_spec (k := k) (q := q) hq.2.1 l2 (names := names) true q.2.2.1 q.2.2.2.1 q.2.2.2.2 _ 0 k [] rfl (Nat.zero_le _) (by omega) (Nat.zero_le _)
        have hq' : QOk k (evB q.1, [], q.2.2.1, q.2.2.2.1, q.2.2.2.2) := ⟨hq.1, Nat.lt_of_le_of_lt (List.length_filter_le _ _) hq.2.1, by (show 0 < min k 9223372036854775807); omega, hq.2.2.2.1, fun x hx => hq.2.2.2.2.1 x ((List.filter_sublist (p := fun x : Itm => !x.1)).subset hx), fun p hp => by cases hp⟩
        have h1 := F15_spec hq (by omega) (names := names) (by omega)
        have h2 := F15_spec hq' (by omega) (names := names) (by omega)
        show (E7_0 k k (names, (q, ()), true, ([], [], q.2.2.1, q.2.2.2.1, q.2.2.2.2, ()), 0, ())).bind _ = _
        rw [s]
        refine Eq.trans (Option.bind_some _ _) ?_
        dsimp only
        have h2 : F15 k ((evB q.1, [], q.2.2.1, q.2.2.2.1, q.2.2.2.2), names, ()) = _ := h2
        simp only [cond_true, List.nil_append, List.drop_zero]
        rw [h2]
        refine Eq.trans (Option.bind_some _ _) ?_
        dsimp only
        rw [h1]
        refine Eq.trans (Option.bind_some _ _) ?_
        dsimp only
        rw [n2, decide_eq_true rfl]
        rfl
end Go.Pv.L12
