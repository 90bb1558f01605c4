/- Layer 12: NfaPlus, plainly. -/
import Derived.Test.YthedngefmaklnaaPvW12
import Derived.Test.YthedngefmaklnaaPvQp12
import Derived.Test.YthedngefmaklnaaPvHead12
namespace Go.Pv.L12
open Go Go.Pv Go.Proofs
set_option linter.all false
set_option linter.constructorNameAsVariable false
set_option linter.unusedSectionVars false
set_option linter.unusedVariables false
set_option linter.unusedSimpArgs false

theorem head_at6 {k : Nat} (hk : 140737488351232 < k) : F9 k () = some ((true, ()), ()) := by
  have := head_ok (k - 100)
  rwa [show k - 100 + 100 = k by omega] at this
theorem stpp {α β : Type} {x : Option α} {a : α} {f : α → Option β} {r : Option β} (h : x = some a) (g : f a = r) : x.bind f = r := by rw [h]; exact g
theorem stppT {α β : Type} {x e : Option α} {a : α} {f : α → Option β} {r : Option β} (h : x = some a) (g : f a = r) : (bif true then x else e).bind f = r := by rw [cond_true, h]; exact g

theorem ent_more {y : Itm} {w w' : List ByteArray → Bool} {s : List ByteArray} (h : ∀ r, w r = true → w' (r ++ s) = true) : ∀ r, entB y w r = true → entB y w' (r ++ s) = true
  | [], e => by cases e
  | n :: r, e => by
    unfold entB at e
    rw [Bool.and_eq_true, Bool.or_eq_true, Bool.and_eq_true] at e
    show (hasB y.2.1 n && (w' (r ++ s) || (decide (y.2.2.2 = 2) && entB y w' (r ++ s)))) = true
    rw [Bool.and_eq_true, Bool.or_eq_true, Bool.and_eq_true]
    refine ⟨e.1, ?_⟩
    rcases e.2 with q | ⟨q1, q2⟩
    · exact .inl (h r q)
    · exact .inr ⟨q1, ent_more h r q2⟩
theorem way_more {b b' : List Itm} {s : List ByteArray} (h : ∀ r, wayB b r = true → wayB b' (r ++ s) = true) : ∀ (a : List Itm) (r : List ByteArray), wayB (a ++ b) r = true → wayB (a ++ b') (r ++ s) = true
  | [], r, e => h r e
  | y :: a, r, e => by
    have e : (bif y.1 then wayB (a ++ b) r else ((decide (y.2.2.2 = 3) && wayB (a ++ b) r) || entB y (wayB (a ++ b)) r)) = true := e
    show (bif y.1 then wayB (a ++ b') (r ++ s) else ((decide (y.2.2.2 = 3) && wayB (a ++ b') (r ++ s)) || entB y (wayB (a ++ b')) (r ++ s))) = true
    cases hy : y.1 with
    | true => rw [hy] at e; exact way_more h a r e
    | false =>
      rw [hy, cond_false, Bool.or_eq_true, Bool.and_eq_true] at e
      rw [cond_false, Bool.or_eq_true, Bool.and_eq_true]
      rcases e with ⟨e1, e2⟩ | e
      · exact .inl ⟨e1, way_more h a r e2⟩
      · exact .inr (ent_more (way_more h a) r e)

/-- The last item, once more. -/
theorem ent_last {z : Itm} (hz : decide (z.2.2.2 = (2 : Int)) = true) {nm : ByteArray} (hn : hasB z.2.1 nm = true) : ∀ r, entB z (wayB []) r = true → entB z (wayB []) (r ++ [nm]) = true
  | [], e => by cases e
  | n :: r, e => by
    unfold entB at e
    rw [Bool.and_eq_true, Bool.or_eq_true, Bool.and_eq_true] at e
    show (hasB z.2.1 n && (wayB [] (r ++ [nm]) || (decide (z.2.2.2 = 2) && entB z (wayB []) (r ++ [nm])))) = true
    rw [hz, Bool.true_and, Bool.and_eq_true, Bool.or_eq_true]
    refine ⟨e.1, .inr ?_⟩
    rcases e.2 with q | ⟨q1, q2⟩
    · have : r = [] := by
        unfold wayB at q
        exact List.isEmpty_iff.1 q
      subst this
      show (hasB z.2.1 nm && _) = true
      rw [hn]
      rfl
    · exact ent_last hz hn r q2
theorem way_last {z : Itm} (h1 : z.1 = false) (hz : decide (z.2.2.2 = (2 : Int)) = true) {nm : ByteArray} (hn : hasB z.2.1 nm = true) (r : List ByteArray) (e : wayB [z] r = true) : wayB [z] (r ++ [nm]) = true := by
  have h3 : decide (z.2.2.2 = (3 : Int)) = false := decide_eq_false fun k => by
    have := of_decide_eq_true hz
    rw [this] at k; cases k
  have e : (bif z.1 then wayB [] r else ((decide (z.2.2.2 = 3) && wayB [] r) || entB z (wayB []) r)) = true := e
  show (bif z.1 then wayB [] (r ++ [nm]) else ((decide (z.2.2.2 = 3) && wayB [] (r ++ [nm])) || entB z (wayB []) (r ++ [nm]))) = true
  rw [h1, h3] at e ⊢
  rw [cond_false, Bool.false_and, Bool.false_or] at e ⊢
  exact ent_last hz hn r e

theorem plus_accepts {q : Qry} (h : rightB q = true) {names : List ByteArray} {nm : ByteArray} (ha : acceptsB q names = true) (hm : decide ((itmAt q.1 (q.1.length - 1)).2.2.2 = (2 : Int)) = true) (hn : hasB (itmAt q.1 (q.1.length - 1)).2.1 nm = true) : acceptsB q (names ++ [nm]) = true := by
  obtain ⟨y, r, hq, h1, h2⟩ := right_first h
  rw [accepts_ent h] at ha ⊢
  have e1 : q.1.drop 1 = r := by rw [hq]; rfl
  have e2 : itmAt q.1 0 = y := by rw [hq]; rfl
  rw [e1, e2] at ha ⊢
  rcases List.eq_nil_or_concat r with rfl | ⟨a, z, rfl⟩
  · have : itmAt q.1 (q.1.length - 1) = y := by rw [hq]; rfl
    rw [this] at hm hn
    exact ent_last hm hn names ha
  · have hz : itmAt q.1 (q.1.length - 1) = z := by
      rw [hq]
      unfold itmAt
      rw [List.getD_eq_getElem?_getD]
      simp
    rw [hz] at hm hn
    have hzm : z ∈ q.1 := by rw [hq]; simp
    obtain ⟨_, _, _, h4, _⟩ := right_iff.1 h
    obtain ⟨_, g, _⟩ := itemsB_iff.1 h4
    have gz := g z hzm
    have hz1 : z.1 = false := by
      unfold itemB at gz
      simp only [Bool.and_eq_true] at gz
      have := gz.2.2.2.2.2.2.2
      rw [Bool.or_eq_true] at this
      rcases this with k | k
      · simpa using k
      · have k1 := of_decide_eq_true k
        have k2 := of_decide_eq_true hm
        rw [k2] at k1; cases k1
    rw [List.concat_eq_append] at ha ⊢
    exact ent_more (way_more (way_last hz1 hm hn) a) names ha

theorem zOpt_has : hasB zOpt.2.1 ({ data := #[122] } : ByteArray) = true := by
  show (List.any [({ data := #[122] } : ByteArray)] fun x => decide (x = { data := #[122] })) = true
  rw [List.any_cons, decide_eq_true rfl]
  rfl
theorem opt_behind {q : Qry} (h : rightB q = true) (hp : rightB (q.1 ++ [zOpt], q.2.1, q.2.2.1, q.2.2.2.1, q.2.2.2.2) = true) {names : List ByteArray} (ha : acceptsB q names = true) :
    acceptsB (q.1 ++ [zOpt], q.2.1, q.2.2.1, q.2.2.2.1, q.2.2.2.2) names = true ∧ acceptsB (q.1 ++ [zOpt], q.2.1, q.2.2.1, q.2.2.2.1, q.2.2.2.2) (names ++ [{ data := #[122] }]) = true := by
  obtain ⟨y, r, hq, h1, h2⟩ := right_first h
  rw [accepts_ent h] at ha
  rw [accepts_ent hp, accepts_ent hp]
  have e1 : q.1.drop 1 = r := by rw [hq]; rfl
  have e2 : itmAt q.1 0 = y := by rw [hq]; rfl
  rw [e1, e2] at ha
  have e3 : (q.1 ++ [zOpt]).drop 1 = r ++ [zOpt] := by rw [hq]; rfl
  have e4 : itmAt (q.1 ++ [zOpt]) 0 = y := by rw [hq]; rfl
  show entB (itmAt (q.1 ++ [zOpt]) 0) (wayB ((q.1 ++ [zOpt]).drop 1)) names = true ∧ entB (itmAt (q.1 ++ [zOpt]) 0) (wayB ((q.1 ++ [zOpt]).drop 1)) (names ++ [{ data := #[122] }]) = true
  rw [e3, e4]
  have b0 : ∀ s, wayB [] s = true → wayB [zOpt] (s ++ []) = true := fun s hs => by
    rw [List.append_nil]
    show ((true && wayB [] s) || entB zOpt (wayB []) s) = true
    rw [hs]; rfl
  have b1 : ∀ s, wayB [] s = true → wayB [zOpt] (s ++ [{ data := #[122] }]) = true := fun s hs => by
    have : s = [] := by
      unfold wayB at hs
      exact List.isEmpty_iff.1 hs
    subst this
    have he : entB zOpt (wayB []) [{ data := #[122] }] = true := by
      show (hasB zOpt.2.1 { data := #[122] } && (wayB [] [] || _)) = true
      rw [zOpt_has]
      rfl
    show ((true && wayB [] [{ data := #[122] }]) || entB zOpt (wayB []) [{ data := #[122] }]) = true
    rw [he, Bool.or_true]
  refine ⟨?_, ?_⟩
  · have := ent_more (y := y) (s := []) (fun s hs => way_more b0 r s (by rw [List.append_nil]; exact hs)) names ha
    rwa [List.append_nil] at this
  · exact ent_more (fun s hs => way_more b1 r s (by rw [List.append_nil]; exact hs)) names ha

theorem F6rest_ok {k N : Nat} {q : Qry} {names : List ByteArray} (hT : QT N q) (hk : 140737488351232 + 3000 < k) (hr : rightB q = true) (hnl : names.length ≤ 140737488351232) (hb : ((names.length : Nat) + 1) * 16 ≤ 140737488355328) (ha : acceptsB q names = true) : F6rest k q names true = some ((true, ()), ()) := by
  have hq := hT.ok (k := k) (by omega)
  obtain ⟨l1, l2⟩ := right_len hr
  unfold F6rest
  by_cases h6 : q.1.length = 6
  · rw [decide_eq_true (by omega : (6 : Int) ≤ (q.1.length : Int))]
    rfl
  · have c1 : decide ((([] : List (Ty.den T38)).length + q.1.length) * (55 + 1) ≤ 140737488355328) = true := decide_eq_true (by rw [List.length_nil]; omega)
    have c2 : decide ((([] ++ q.1).length + [zOpt].length) * (55 + 1) ≤ 140737488355328) = true := decide_eq_true (by rw [List.nil_append, List.length_singleton]; omega)
    have hqp : QOk k (q.1 ++ [zOpt], q.2.1, q.2.2.1, q.2.2.2.1, q.2.2.2.2) := ⟨hq.1, by (show (q.1 ++ [zOpt]).length < _); rw [List.length_append, List.length_singleton]; omega, hq.2.2.1, hq.2.2.2.1, fun x hx => (by
      rcases List.mem_append.1 hx with h | h
      · exact hq.2.2.2.2.1 x h
      · have : x = zOpt := List.mem_singleton.1 h
        subst this
        refine ⟨?_, ?_, fun s hs => ?_⟩
        · show 2 < _
          omega
        · show 1 < _
          omega
        · have : s = { data := #[122] } := List.mem_singleton.1 hs
          subst this
          show 1 < _
          omega), hq.2.2.2.2.2⟩
    rw [decide_eq_false (by omega : ¬ (6 : Int) ≤ (q.1.length : Int)), c1, c2, cond_false, cond_true, cond_true, List.nil_append]
    have h17 := F17_spec hqp
    refine stpp h17 ?_
    cases hp : rightB (q.1 ++ [zOpt], q.2.1, q.2.2.1, q.2.2.2.1, q.2.2.2.2) with
    | false => rfl
    | true =>
      obtain ⟨a1, a2⟩ := opt_behind hr hp ha
      have f1 := F15_spec hqp (by omega) (names := names) (by omega)
      have f2 := F15_spec hqp (by omega) (names := names ++ [{ data := #[122] }]) (by rw [List.length_append, List.length_singleton]; omega)
      rw [a1] at f1
      rw [a2] at f2
      have d1 : decide ((([] : List (Ty.den T9)).length + names.length) * (15 + 1) ≤ 140737488355328) = true := decide_eq_true (by rw [List.length_nil]; omega)
      have d2 : decide ((([] ++ names).length + [({ data := #[122] } : ByteArray)].length) * (15 + 1) ≤ 140737488355328) = true := decide_eq_true (by rw [List.nil_append, List.length_singleton]; omega)
      dsimp only
      rw [Bool.not_true, cond_false]
      refine stppT (a := ((true, ()), ())) f1 ?_
      rw [d1, d2]
      simp only [cond_true, List.nil_append]
      refine stpp f2 ?_
      rfl

theorem min3_nat (n : Nat) : 0 ≤ min3 n ∧ min3 n ≤ 3000 := by
  unfold min3
  rw [cond_false]
  cases h : decide ((3000 : Int) < (n : Int)) with
  | true => exact ⟨by rw [cond_true]; decide, by rw [cond_true]; decide⟩
  | false =>
    rw [cond_false]
    have := of_decide_eq_false h
    omega
theorem F11_lt {k : Nat} (hk : 140737488351232 < k) {l : List ByteArray} (hl : l.length ≤ 140737488351232) : ∃ b, F11 k (l, ()) = some ((b, ()), ()) ∧ (b = false → l.length < 3000) := by
  have key : ∀ (d i j : Nat) (n : Int), l.length - i = d → i ≤ l.length → d < j → 0 ≤ n → n ≤ 140737488351232 → ∃ r : Int, n ≤ r ∧ E11_0 k j (l, n, (i : Int), ()) = some (Sum.inl (r, ())) := by
    intro d
    induction d with
    | zero =>
      intro i j n h1 h2 h3 h4 h5
      have : i = l.length := by omega
      subst this
      match j, h3 with
      | j + 1, _ => rw [E11_0_eq, nlt_nat]; exact ⟨n, Int.le_refl _, rfl⟩
    | succ d ih =>
      intro i j n h1 h2 h3 h4 h5
      match j, h3 with
      | j + 1, h3 =>
        have hi : i < l.length := by omega
        rw [E11_0_eq, lt_nat hi, inb_nat hi, wrap_nat (by omega)]
        cases hn : decide (n < 3000) with
        | false => exact ⟨n, Int.le_refl _, rfl⟩
        | true =>
          have hn := of_decide_eq_true hn
          obtain ⟨m1, m2⟩ := min3_nat (ByteArray.size (rd Ty.s l (i : Int)))
          have hw : IntKind.i64.wrap (n + min3 (ByteArray.size (rd Ty.s l (i : Int)))) = n + min3 (ByteArray.size (rd Ty.s l (i : Int))) := wrap_le (by omega) (by omega)
          obtain ⟨r', q1, hr'⟩ := ih (i + 1) j (IntKind.i64.wrap (n + min3 (ByteArray.size (rd Ty.s l (i : Int))))) (by omega) (by omega) (by omega) (by rw [hw]; omega) (by rw [hw]; omega)
          rw [show (((i + 1 : Nat)) : Int) = (i : Int) + 1 by omega] at hr'
          rw [hw] at q1
          exact ⟨r', by omega, hr'⟩
  rw [F11_eq]
  obtain ⟨r, q1, hr⟩ := key l.length 0 k (l.length : Int) (by omega) (by omega) (by omega) (by omega) (by omega)
  have hr : E11_0 k k (l, (l.length : Int), 0, ()) = _ := hr
  rw [hr]
  refine ⟨_, rfl, fun hb => ?_⟩
  have : ¬ (3000 : Int) ≤ r := of_decide_eq_false hb
  omega

theorem PureNfaPlus (x : shsDen (argSh [T25, T26])) (hok : okAll [T25, T26] x) : ∃ k z, F6 k x = some ((true, ()), z) := by
  obtain ⟨q, names, u⟩ := x
  obtain ⟨ok1, ok2, _⟩ := hok
  have ok1 : T25.ok q := ok1
  have ok2 : T26.ok names := ok2
  obtain ⟨N, hT⟩ := qt_of ok1
  have hnl : names.length ≤ 140737488351232 := ok2.1
  refine ⟨140737488351232 + 3001 + N, (), ?_⟩
  generalize hkk : 140737488351232 + 3001 + N = k
  have hk : 140737488351232 < k := by omega
  have hq := hT.ok hk
  obtain ⟨b1, h10⟩ := F10_total hT hk (by omega)
  obtain ⟨b2, h11, hlt⟩ := F11_lt hk hnl
  show F6 k (q, names, ()) = _
  rw [F6_eq]
  refine stpp (head_at6 hk) ?_
  refine stpp h10 ?_
  cases b1 with
  | true => rfl
  | false =>
    refine stpp (a := ((b2, ()), ())) h11 ?_
    cases b2 with
    | true => rfl
    | false =>
      have hlt := hlt rfl
      refine stppT (a := ((rightB q, ()), ())) (F17_spec hq) ?_
      cases hr : rightB q with
      | false => rfl
      | true =>
        obtain ⟨l1, l2⟩ := right_len hr
        cases h0 : decide ((names.length : Int) = 0) with
        | true => rfl
        | false =>
          have h0 := of_decide_eq_false h0
          refine stppT (a := ((acceptsB q names, ()), ())) (F15_spec hq (by omega) (by omega)) ?_
          cases ha : acceptsB q names with
          | false => rfl
          | true =>
            have w1 : IntKind.i64.wrap ((q.1.length : Int) - 1) = ((q.1.length - 1 : Nat) : Int) := by rw [wrap_le (by omega) (by omega)]; omega
            have w2 : IntKind.i64.wrap ((names.length : Int) - 1) = ((names.length - 1 : Nat) : Int) := by rw [wrap_le (by omega) (by omega)]; omega
            have hit : rd T38 q.1 ((q.1.length - 1 : Nat) : Int) = itmAt q.1 (q.1.length - 1) := rd_nat q.1 _
            have i1 : inb ((q.1.length - 1 : Nat) : Int) q.1.length = true := inb_nat (by omega)
            have i2 : inb ((names.length - 1 : Nat) : Int) names.length = true := inb_nat (by omega)
            have hrest := F6rest_ok (k := k) hT (by omega) hr hnl (by omega) ha
            dsimp only
            simp only [Bool.not_true, Bool.not_false, cond_true, cond_false]
            rw [w1, w2, hit, i1, i2, cond_true, Bool.cond_self, cond_true]
            cases hm : decide ((itmAt q.1 (q.1.length - 1)).2.2.2 = (2 : Int)) with
            | false =>
              refine Eq.trans (Option.bind_some _ _) ?_
              exact hrest
            | true =>
              have h18 := F18_spec (k := k) (x := itmAt q.1 (q.1.length - 1)) (s := rd Ty.s names ((names.length - 1 : Nat) : Int)) (hq.2.2.2.2.1 _ (itmAt_mem (by omega))).2.1
              refine stppT (a := ((hasB (itmAt q.1 (q.1.length - 1)).2.1 (rd Ty.s names ((names.length - 1 : Nat) : Int)), ()), ())) h18 ?_
              cases hn : hasB (itmAt q.1 (q.1.length - 1)).2.1 (rd Ty.s names ((names.length - 1 : Nat) : Int)) with
              | false => exact hrest
              | true =>
                dsimp only
                simp only [cond_true]
                have hp := plus_accepts hr ha hm hn
                have f1 := F15_spec hq (by omega) (names := names ++ [rd Ty.s names ((names.length - 1 : Nat) : Int)]) (by rw [List.length_append, List.length_singleton]; omega)
                rw [hp] at f1
                have d1 : decide ((([] : List (Ty.den T9)).length + names.length) * (15 + 1) ≤ 140737488355328) = true := decide_eq_true (by rw [List.length_nil]; omega)
                have d2 : decide ((([] ++ names).length + [rd Ty.s names ((names.length - 1 : Nat) : Int)].length) * (15 + 1) ≤ 140737488355328) = true := decide_eq_true (by rw [List.nil_append, List.length_singleton]; omega)
                rw [d1, d2]
                simp only [cond_true, List.nil_append, f1]
                exact hrest
end Go.Pv.L12
