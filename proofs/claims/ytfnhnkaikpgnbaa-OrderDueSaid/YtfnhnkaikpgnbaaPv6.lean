/- The engine, part 6: stores, rows made and grown, texts and bytes. -/
import Derived.Test.YtfnhnkaikpgnbaaPv5
namespace Go.Pv
open Go
set_option linter.all false
set_option linter.constructorNameAsVariable false
set_option linter.unusedSectionVars false
set_option linter.unusedVariables false
set_option linter.unusedSimpArgs false
variable {N : List Nat}

section
variable {C : Cfg} {G : Gh N} {w : World} {h : List Ob}

theorem run_storeAt {t : TypeId} {n b o : Nat} (hn : C.size t = some n) {v : Value} (hs : v.cells.size = n) :
    (Instr.storeAt t (.pointer (some ⟨b, o, none⟩)) v).run C.P w = (storeCells ⟨b, o, none⟩ v.cells.toList).run C.P w := by
  unfold Instr.storeAt storeVar
  simp only [Instr.sureAddr, Sem.run_bind, Sem.run_pure, Result.andThen_ok, size_run hn, hs, ne_eq, not_true_eq_false, if_false]

theorem store_box (hm : Mem G w h) {t : TypeId} {n id off : Nat} {vs : List V} (hn : C.size t = some n) (hi : h[id]? = some (.box vs)) {v : V} {va vv : Value} (hx : Rel G w (.ptr id off) va) (hv : Rel G w v vv)
    (hl : v.cells.length = n) (hf : leafs v.cells = true) (hb : off + n ≤ vs.length) :
    Did G w ((do Instr.storeAt t va vv; pure .skip : Sem Next).run C.P w) .u (h.set id (.box (vs.take off ++ v.cells ++ vs.drop (off + n)))) := by
  obtain ⟨c1, c2, c3⟩ := cells_rel hv hf hm
  obtain ⟨b, o, hρ, hc⟩ := hm.obj _ _ hi
  cases hx with
  | ptr _ _ b' o' hρ' =>
    rw [hρ] at hρ'
    simp only [Option.some.injEq, Value.pointer.injEq, Addr.mk.injEq] at hρ'
    obtain ⟨rfl, rfl, _⟩ := hρ'
    have hsz : vv.cells.size = n := by omega
    obtain ⟨w', k1, k2, k3, k4, k5⟩ := run_stores C.P vv.cells.toList w b (o + off) 0 (fun k u hu => by
      rw [Array.getElem?_toList] at hu
      have hk : k < n := by have := (Array.getElem?_eq_some_iff.1 hu).1; omega
      obtain ⟨q1, q2, val, q3, _⟩ := hc (off + k) _ (List.getElem?_eq_getElem (by omega))
      rw [show o + off + 0 + k = o + (off + k) by omega]
      exact ⟨by rw [q3]; rfl, q2, c3 k u hu⟩)
    simp only [Nat.add_zero, Array.length_toList, hsz] at k3 k4 k5
    have how : ∀ k, k < vs.length → G.ow b (o + k) = some id := fun k hk => (hc k _ (List.getElem?_eq_getElem hk)).1
    have hkeep : ∀ b' o', G.ow b' o' ≠ some id → cel w' b' o' = cel w b' o' := by
      intro b' o' hne
      rw [k3]
      split
      · rename_i q
        obtain ⟨rfl, q1, q2⟩ := q
        exact absurd (by have := how (o' - o) (by omega); rwa [show o + (o' - o) = o' by omega] at this) hne
      · rfl
    have hs : Subs G w G w' := ⟨fun b' o' k => ⟨k, hkeep _ _ (by rw [(hm.I _ _ k).1]; simp)⟩, fun _ _ k => k⟩
    obtain ⟨m1, m2, m3⟩ := mem_upd hm (ob := .box (vs.take off ++ v.cells ++ vs.drop (off + n))) k2.1 k2.2 hkeep (fun b1 o1 _ => k4 b1 o1) (fun b' hb' => k5 b' (fun e => by
        subst e
        by_cases hn0 : n = 0
        · exact List.eq_nil_of_length_eq_zero (by rw [Array.length_toList]; omega)
        · have := how off (by omega)
          rw [hb'] at this
          cases this)) ⟨b, o, hρ, fun k u hu => by
        have hlen : (vs.take off ++ v.cells ++ vs.drop (off + n)).length = vs.length := by
          simp only [List.length_append, List.length_take, List.length_drop]; omega
        have hk : k < vs.length := by have := (List.getElem?_eq_some_iff.1 hu).1; omega
        obtain ⟨q1, q2, val, q3, q4⟩ := hc k _ (List.getElem?_eq_getElem hk)
        refine ⟨q1, by rw [k4]; exact q2, ?_⟩
        by_cases hin : off ≤ k ∧ k < off + n
        · have hu' : v.cells[k - off]? = some u := by
            rw [List.append_assoc, List.getElem?_append_right (by rw [List.length_take]; omega), List.length_take, Nat.min_eq_left (by omega), List.getElem?_append_left (by omega)] at hu
            exact hu
          have hc' : vv.cells[k - off]? = some vv.cells[k - off] := Array.getElem?_eq_getElem (by omega)
          refine ⟨vv.cells[k - off], ?_, (c2 _ _ _ hu' hc').mono hs⟩
          rw [k3, if_pos ⟨rfl, by omega, by omega⟩, Array.getElem?_toList, show o + k - (o + off) = k - off by omega]
          exact hc'
        · have hu' : vs[k]? = some u := by
            by_cases hlo : k < off
            · rwa [List.append_assoc, List.getElem?_append_left (by rw [List.length_take]; omega), List.getElem?_take_of_lt hlo] at hu
            · rwa [List.getElem?_append_right (by simp only [List.length_append, List.length_take]; omega), List.getElem?_drop, show off + n + (k - (vs.take off ++ v.cells).length) = k by simp only [List.length_append, List.length_take]; omega] at hu
          rw [List.getElem?_eq_getElem hk] at hu'
          injection hu' with hu'
          subst hu'
          refine ⟨val, ?_, q4.mono hs⟩
          rw [k3, if_neg (by omega)]
          exact q3⟩
    refine ⟨undef, w', G, .inr ⟨?_, rfl⟩, .u _, m1, m2, m3⟩
    simp only [Sem.run_bind, run_storeAt hn hsz]
    rw [k1]
    rfl


theorem store_row (hm : Mem G w h) {t : TypeId} {n id off : Nat} {e : Ty} {xs : List e.den} {i : Int} (hn : C.size t = some n) {v : V} {va vv : Value} (hx : Rel G w (.pel e id i off) va) (hv : Rel G w v vv)
    (hl : v.cells.length = n) (hf : leafs v.cells = true) (hi : (froL h v.cells)[id]? = some (.row e xs)) {x : e.den} (hc : e.comp1 ((e.leaves (rd e xs i)).take off ++ v.cells.map (imm1 h) ++ (e.leaves (rd e xs i)).drop (off + n)) = some x) (hin : inb i xs.length = true) (hoff : off + n ≤ e.n) :
    Did G w ((do Instr.storeAt t va vv; pure .skip : Sem Next).run C.P w) .u ((froL h v.cells).set id (.row e (xs.set i.toNat x))) := by
  obtain ⟨c1, c2, c3⟩ := cells_rel hv hf hm
  have hb : 0 ≤ i ∧ i < xs.length := by
    unfold inb at hin
    simpa using hin
  have hlt : i.toNat < xs.length := by omega
  have hget : xs[i.toNat]? = some (rd e xs i) := by
    unfold rd
    rw [List.getD_eq_getElem?_getD, List.getElem?_eq_getElem hlt]
    rfl
  obtain ⟨G1, f1, f2, f3, f4⟩ := froL_ok v.cells hm vv.cells.toList (fun k u val h1 h2 => c2 k u val h1 (by rwa [Array.getElem?_toList] at h2)) (by rw [c1, Array.length_toList])
  obtain ⟨p1, p2⟩ := comp1_ok hc
  have hsz : vv.cells.size = n := by omega
  rcases f1.obj _ _ hi with ⟨_, hnil⟩ | ⟨b, o, cap, hρ, hrow⟩
  · subst hnil; simp at hlt
  · have hrow1 := hrow.1
    have hrow2 := hrow.2.1
    have hrow3 := hrow.2.2
    cases hx with
    | pel _ _ _ _ b' o' len cap' hρ' =>
      have hρ1 := f2.ρ _ _ hρ'
      rw [hρ] at hρ1
      simp only [Option.some.injEq, Value.slice.injEq, Addr.mk.injEq] at hρ1
      obtain ⟨⟨rfl, rfl, _⟩, _, _⟩ := hρ1
      have hpos : ∀ k, k < n → i.toNat * e.n + off + k < cap * e.n := fun k hk => by
        have := in_row (Nat.lt_of_lt_of_le hlt hrow1) (show off + k < e.n by omega)
        omega
      obtain ⟨w', k1, k2, k3, k4, k5⟩ := run_stores C.P vv.cells.toList w b (o + (i.toNat * e.n + off)) 0 (fun k u hu => by
        rw [Array.getElem?_toList] at hu
        have hk : k < n := by have := (Array.getElem?_eq_some_iff.1 hu).1; omega
        obtain ⟨q1, q2, q3, _⟩ := hrow2 _ (hpos k hk)
        rw [show o + (i.toNat * e.n + off) + 0 + k = o + (i.toNat * e.n + off + k) by omega]
        exact ⟨q3, q2, c3 k u hu⟩)
      simp only [Nat.add_zero, Array.length_toList, hsz] at k3 k4 k5
      have hkeep : ∀ b' o', G1.ow b' o' ≠ some id → cel w' b' o' = cel w b' o' := by
        intro b' o' hne
        rw [k3]
        split
        · rename_i q
          obtain ⟨rfl, q1, q2⟩ := q
          have := (hrow2 _ (hpos (o' - (o + (i.toNat * e.n + off))) (by omega))).1
          rw [show o + (i.toNat * e.n + off + (o' - (o + (i.toNat * e.n + off)))) = o' by omega] at this
          exact absurd this hne
        · rfl
      have hs : Subs G1 w G1 w' := ⟨fun b' o' k => ⟨k, hkeep _ _ (by rw [(f1.I _ _ k).1]; simp)⟩, fun _ _ k => k⟩
      obtain ⟨m1, m2, m3⟩ := mem_upd f1 (ob := .row e (xs.set i.toNat x)) k2.1 k2.2 hkeep (fun b1 o1 _ => k4 b1 o1) (fun b' hb' => k5 b' (fun e1 => by
          subst e1
          by_cases hn0 : n = 0
          · exact List.eq_nil_of_length_eq_zero (by rw [Array.length_toList]; omega)
          · have := (hrow2 _ (hpos 0 (by omega))).1
            rw [hb'] at this
            cases this)) (.inr ⟨b, o, cap, by rw [List.length_set]; exact hρ, by rw [List.length_set]; exact hrow1, fun k hk => by
          obtain ⟨q1, q2, q3, q5⟩ := hrow2 k hk
          refine ⟨q1, by rw [k4]; exact q2, ?_, q5.keep fun _ q => ⟨q, k4 _ _⟩⟩
          rw [k3]
          split
          · rename_i q
            rw [List.getElem?_eq_getElem (by rw [Array.length_toList]; omega)]
            rfl
          · exact q3, fun j y k u hy hu => by
          by_cases hj : j = i.toNat
          · subst hj
            rw [List.getElem?_set_self hlt] at hy
            injection hy with hy
            subst hy
            have hk := leaf_lt hu
            -- the cells that went into it
            have hcomp : ∀ (uu : V) (val : Value), ((e.leaves (rd e xs i)).take off ++ v.cells.map (imm1 h) ++ (e.leaves (rd e xs i)).drop (off + n))[k]? = some uu → Rel G1 w uu val → Rel G1 w' u val := fun uu val h1 h2 => (p2 k u uu val hu h1 h2).mono hs
            by_cases hmid : off ≤ k ∧ k < off + n
            · have h1 : ((e.leaves (rd e xs i)).take off ++ v.cells.map (imm1 h) ++ (e.leaves (rd e xs i)).drop (off + n))[k]? = (v.cells[k - off]?).map (imm1 h) := by
                rw [List.append_assoc, List.getElem?_append_right (by rw [List.length_take]; omega), List.length_take, Ty.leaves_length, Nat.min_eq_left (by omega), List.getElem?_append_left (by rw [List.length_map]; omega), List.getElem?_map]
              have hlt2 : k - off < v.cells.length := by omega
              rw [List.getElem?_eq_getElem hlt2] at h1
              have hval : vv.cells[k - off]? = some vv.cells[k - off] := Array.getElem?_eq_getElem (by omega)
              refine ⟨vv.cells[k - off], ?_, hcomp _ _ h1 (f4 (k - off) _ _ (List.getElem?_eq_getElem hlt2) (by rw [Array.getElem?_toList]; exact hval))⟩
              rw [k3, if_pos ⟨rfl, by omega, by omega⟩, Array.getElem?_toList, show o + (i.toNat * e.n + k) - (o + (i.toNat * e.n + off)) = k - off by omega]
              exact hval
            · have h1 : ((e.leaves (rd e xs i)).take off ++ v.cells.map (imm1 h) ++ (e.leaves (rd e xs i)).drop (off + n))[k]? = (e.leaves (rd e xs i))[k]? := by
                by_cases hlo : k < off
                · rw [List.append_assoc, List.getElem?_append_left (by rw [List.length_take, Ty.leaves_length]; omega), List.getElem?_take_of_lt hlo]
                · rw [List.getElem?_append_right (by simp only [List.length_append, List.length_take, List.length_map, Ty.leaves_length]; omega), List.getElem?_drop]
                  congr 1
                  simp only [List.length_append, List.length_take, List.length_map, Ty.leaves_length]
                  omega
              have hk2 : k < (e.leaves (rd e xs i)).length := by rw [Ty.leaves_length]; exact hk
              rw [List.getElem?_eq_getElem hk2] at h1
              obtain ⟨val, q1, q2⟩ := hrow3 _ _ k _ hget (List.getElem?_eq_getElem hk2)
              refine ⟨val, ?_, hcomp _ _ h1 q2⟩
              rw [k3, if_neg (by omega)]
              exact q1
          · rw [List.getElem?_set_ne (Ne.symm hj)] at hy
            obtain ⟨val, q1, q2⟩ := hrow3 j y k u hy hu
            refine ⟨val, ?_, q2.mono hs⟩
            have hk := leaf_lt hu
            rw [k3, if_neg]
            · exact q1
            · rintro ⟨_, a1, a2⟩
              rcases Nat.lt_or_gt_of_ne hj with hlt' | hgt'
              · have := Nat.mul_le_mul_right e.n (show j + 1 ≤ i.toNat from hlt')
                rw [Nat.add_mul] at this
                omega
              · have := Nat.mul_le_mul_right e.n (show i.toNat + 1 ≤ j from hgt')
                rw [Nat.add_mul] at this
                omega⟩)
      refine ⟨undef, w', G1, .inr ⟨?_, rfl⟩, .u _, m1, f2.trans m2, f3.trans m3⟩
      simp only [Sem.run_bind, run_storeAt hn hsz]
      rw [k1]
      rfl

theorem store_ok (hm : Mem G w h) (t : TypeId) {a v : V} {va vv : Value} (hx : Rel G w a va) (hv : Rel G w v vv) :
    OutOk G w ((do Instr.storeAt t va vv; pure .skip : Sem Next).run C.P w) (storeV C h t a v) := by
  unfold storeV
  split
  · rename_i n hn
    dsimp only
    split
    · rename_i hb
      rw [Bool.and_eq_true] at hb
      have hl := Nat.eq_of_beq_eq_true hb.1
      split
      · rename_i id off
        rw [nth_eq]
        split
        · rename_i vs hi
          split
          · rename_i hle
            rw [setn_eq]
            exact store_box hm hn hi hx hv hl hb.2 (Nat.le_of_ble_eq_true hle)
          · trivial
        · trivial
      · rename_i e id i off
        rw [nth_eq]
        split
        · rename_i e' xs hi
          split
          · rename_i xs' hcast
            obtain ⟨he, hy⟩ := castL_some hcast
            subst he
            subst hy
            split
            · rename_i x hcomp
              split
              · rename_i hle
                intro hin
                rw [setn_eq]
                exact store_row hm hn hx hv hl hb.2 hi hcomp hin (Nat.le_of_ble_eq_true hle)
              · trivial
            · trivial
          · trivial
        · trivial
      · trivial
    · trivial
  · trivial
end
end Go.Pv
