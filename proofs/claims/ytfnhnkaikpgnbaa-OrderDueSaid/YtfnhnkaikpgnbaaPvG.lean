/- The engine, part 12e: regions without an order: what the evaluation tells of each operation. -/
import Derived.Test.YtfnhnkaikpgnbaaPvF
namespace Go.Pv
open Go
set_option linter.all false
set_option linter.constructorNameAsVariable false
set_option linter.unusedSectionVars false
set_option linter.unusedVariables false
set_option linter.unusedSimpArgs false

theorem Pre.app {b h : List Ob} (hp : Pre b h) (x : List Ob) : Pre b (h ++ x) := by
  have key : ∀ (id : Nat) (ob : Ob), nth h id = some ob → nth (h ++ x) id = some ob := by
    intro id ob hh
    rw [nth_eq] at hh ⊢
    rw [List.getElem?_append_left (List.getElem?_eq_some_iff.1 hh).1]
    exact hh
  intro id ob hid
  rcases hp id ob hid with k | k | ⟨e, xs, rfl, k⟩
  · exact .inl k
  · exact .inr (.inl (key _ _ k))
  · exact .inr (.inr ⟨e, xs, rfl, key _ _ k⟩)
theorem Pre.fro1 {b h : List Ob} (hp : Pre b h) (v : V) : Pre b (fro1 h v) := by
  cases v with
  | row i =>
    simp only [Pv.fro1]
    split
    · rename_i e xs hi
      intro id ob hid
      rw [setn_eq]
      by_cases he : i = id
      · subst he
        have hlt := nth_lt hi
        rcases hp i ob hid with k | k | ⟨e', xs', rfl, k⟩
        · exact .inl k
        · rw [hi] at k
          injection k with k
          subst k
          exact .inr (.inr ⟨e, xs, rfl, by rw [nth_eq, List.getElem?_set_self hlt]⟩)
        · rw [hi] at k
          cases k
      · rcases hp id ob hid with k | k | ⟨e', xs', rfl, k⟩
        · exact .inl k
        · exact .inr (.inl (by rw [nth_eq, List.getElem?_set_ne he, ← nth_eq]; exact k))
        · exact .inr (.inr ⟨e', xs', rfl, by rw [nth_eq, List.getElem?_set_ne he, ← nth_eq]; exact k⟩)
    · exact hp
  | _ => exact hp
theorem Pre.froL {b : List Ob} : ∀ (vs : List V) {h : List Ob}, Pre b h → Pre b (froL h vs)
  | [], _, hp => hp
  | v :: r, _, hp => Pre.froL r (hp.fro1 v)
theorem Pre.froIds {b : List Ob} : ∀ (is : List Nat) {h : List Ob}, Pre b h → Pre b (froIds h is)
  | [], _, hp => hp
  | v :: r, _, hp => Pre.froIds r (hp.fro1 (.row v))
theorem Pre.dead {b h : List Ob} (hp : Pre b h) {id : Nat} (hid : b.length ≤ id) : Pre b (setn h id .dead) := by
  intro i ob hi
  have hlt := nth_lt hi
  rw [setn_eq]
  rcases hp i ob hi with k | k | ⟨e', xs', rfl, k⟩
  · exact .inl k
  · exact .inr (.inl (by rw [nth_eq, List.getElem?_set_ne (by omega), ← nth_eq]; exact k))
  · exact .inr (.inr ⟨e', xs', rfl, by rw [nth_eq, List.getElem?_set_ne (by omega), ← nth_eq]; exact k⟩)
theorem Pre.dead2 {b h : List Ob} (hp : Pre b h) {id : Nat} (hid : (Nat.ble b.length id || isDead b id) = true) : Pre b (setn h id .dead) := by
  rw [Bool.or_eq_true] at hid
  rcases hid with hid | hid
  · exact hp.dead (Nat.le_of_ble_eq_true hid)
  · intro i ob hi
    rw [setn_eq]
    by_cases he : id = i
    · subst he
      unfold isDead at hid
      rw [hi] at hid
      left
      cases ob <;> first | rfl | (cases hid; done)
    · rcases hp i ob hi with k | k | ⟨e', xs', rfl, k⟩
      · exact .inl k
      · exact .inr (.inl (by rw [nth_eq, List.getElem?_set_ne he, ← nth_eq]; exact k))
      · exact .inr (.inr ⟨e', xs', rfl, by rw [nth_eq, List.getElem?_set_ne he, ← nth_eq]; exact k⟩)

section
variable {C : Cfg} {T : List (Nat × Spec)} {n : Nat} {all : List Oper}

theorem call_pre {b : List Ob} {fid : Nat} {h : List Ob} {vs : List V} (hp : Pre b h) : ∀ (T : List (Nat × Spec)) {v : V} {h' : List Ob}, bareSpec fid T = true → (callV fid h vs T).got v h' → Pre b h'
  | [], v, h', hbs, hg => hg.elim
  | (g, sp) :: r, v, h', hbs, hg => by
    unfold callV at hg
    simp only [bareSpec, Bool.and_eq_true] at hbs
    cases hb : Nat.beq g fid with
    | false => rw [hb, cond_false] at hg; exact call_pre hp r hbs.2 hg
    | true =>
      rw [hb, cond_true] at hg
      rw [hb, cond_true] at hbs
      split at hg
      · rename_i x1 o1 b1 hrd1
        dsimp only at hg
        have hp1 : Pre b (bif sp.plain then h else froIds h b1) := by
          cases sp.plain with
          | true => exact hp
          | false => exact hp.froIds _
        generalize (bif sp.plain then h else froIds h b1) = H at hg hp1
        split at hg
        · rename_i x o b' hrd
          split at hg
          · obtain ⟨y, _, _, rfl⟩ := hg
            have ho := bare_o sp.ins hbs.1 hrd
            subst ho
            have key : aftH H [] sp vs y = H ++ (shsMk (H.length + 0) sp.outs y.1).2 := by
              unfold aftH aftM
              rw [mk_bare _ sp.ins hbs.1 y.2]
              cases shsUpdV sp.ins vs <;> rfl
            show Pre b (aftH H [] sp vs y)
            rw [key]
            exact hp1.app _
          · exact hg.elim
        · exact hg.elim
      · exact call_pre hp r hbs.2 hg

theorem Pre.kill {b : List Ob} : ∀ (l : List Nat) {h : List Ob}, Pre b h → l.all (isDead b) = true → Pre b (kill h l)
  | [], h, hp, _ => hp
  | i :: r, h, hp, hd => by
    rw [List.all_cons, Bool.and_eq_true] at hd
    exact Pre.kill r (hp.dead2 (by rw [hd.1, Bool.or_true])) hd.2
theorem Pre.put {b h : List Ob} (hp : Pre b h) {id : Nat} (hid : isDead b id = true) (ob : Ob) : Pre b (setn h id ob) := by
  intro i ob' hi
  rw [setn_eq]
  by_cases he : id = i
  · subst he
    unfold isDead at hid
    rw [hi] at hid
    left
    cases ob' <;> first | rfl | (cases hid; done)
  · rcases hp i ob' hi with k | k | ⟨e', xs', rfl, k⟩
    · exact .inl k
    · exact .inr (.inl (by rw [nth_eq, List.getElem?_set_ne he, ← nth_eq]; exact k))
    · exact .inr (.inr ⟨e', xs', rfl, by rw [nth_eq, List.getElem?_set_ne he, ← nth_eq]; exact k⟩)
/-- Nobody looks so far. -/
def Far (b : List Ob) (L : Nat) : Prop := ∀ (id : Nat) (ob : Ob), nth b id = some ob → ob = .dead ∨ id < L
theorem Pre.far {b h : List Ob} (hp : Pre b h) : Far b h.length := fun id ob hid => by
  rcases hp id ob hid with k | k | ⟨_, _, _, k⟩
  · exact .inl k
  · exact .inr (nth_lt k)
  · exact .inr (nth_lt k)
theorem Pre.deadF {b h : List Ob} (hp : Pre b h) {L id : Nat} (hf : Far b L) (hid : L ≤ id) (ob : Ob) : Pre b (setn h id ob) := by
  intro i ob' hi
  rw [setn_eq]
  by_cases he : id = i
  · subst he
    rcases hf id ob' hi with k | k
    · exact .inl k
    · omega
  · rcases hp i ob' hi with k | k | ⟨e', xs', rfl, k⟩
    · exact .inl k
    · exact .inr (.inl (by rw [nth_eq, List.getElem?_set_ne he, ← nth_eq]; exact k))
    · exact .inr (.inr ⟨e', xs', rfl, by rw [nth_eq, List.getElem?_set_ne he, ← nth_eq]; exact k⟩)
def vGe (L : Nat) (v : V) : Prop := (∀ id, v = .row id → L ≤ id) ∧ (∀ id off, v = .ptr id off → L ≤ id)
theorem Pre.swapV {b : List Ob} {L : Nat} (hf : Far b L) : ∀ (xs ys : List V) {h : List Ob}, Pre b h → xs.all (deadV b) = true → (∀ v, v ∈ ys → vGe L v) → Pre b (swapV h xs ys)
  | [], ys, h, hp, _, _ => by unfold Pv.swapV; exact hp
  | x :: r, [], h, hp, _, _ => by unfold Pv.swapV; exact hp
  | x :: r, y :: r', h, hp, hd, hy => by
    rw [List.all_cons, Bool.and_eq_true] at hd
    unfold Pv.swapV
    refine Pre.swapV hf r r' ?_ hd.2 fun v hv => hy v (List.mem_cons_of_mem _ hv)
    have hyy := hy y (List.mem_cons_self ..)
    have key : ∀ i j, isDead b i = true → L ≤ j → Pre b (swapO h i j) := fun i j h1 h2 => by
      unfold swapO
      split
      · exact (hp.put h1 _).deadF hf h2 _
      · exact hp
    unfold swap1
    split
    · exact key _ _ hd.1 (hyy.1 _ rfl)
    · exact key _ _ hd.1 (hyy.2 _ _ rfl)
    · exact hp
def isUpd : Sh → Bool
  | .mrow _ | .ptr _ => true
  | _ => false
theorem upd_upd : ∀ (m : Nat) (shs : List Sh), shs.length ≤ m → (shsUpd shs).all isUpd = true
  | _, [], _ => rfl
  | 0, s :: r, h => by simp at h
  | m + 1, s :: r, h => by
    have hr : r.length ≤ m := by simpa using h
    have ih := upd_upd m r hr
    cases s <;> simp only [shsUpd, List.all_cons, isUpd, Bool.true_and] <;> exact ih
theorem mk_ge : ∀ (shs : List Sh) (x : shsDen shs) (j : Nat), shs.all isUpd = true → ∀ v, v ∈ (shsMk j shs x).1 → vGe j v
  | [], x, j, _, v, hv => by simp [shsMk] at hv
  | s :: r, x, j, hu, v, hv => by
    rw [List.all_cons, Bool.and_eq_true] at hu
    cases s with
    | mrow e =>
      simp only [shsMk, List.mem_cons] at hv
      rcases hv with rfl | hv
      · exact ⟨fun id e => (by injection e with e; omega), fun id off e => (by cases e)⟩
      · have := mk_ge r x.2 (j + 1) hu.2 v hv
        exact ⟨fun id e => by have := this.1 id e; omega, fun id off e => by have := this.2 id off e; omega⟩
    | ptr fs =>
      simp only [shsMk, List.mem_cons] at hv
      rcases hv with rfl | hv
      · exact ⟨fun id e => (by cases e), fun id off e => by injection e with e _; omega⟩
      · have := mk_ge r x.2 _ hu.2 v hv
        exact ⟨fun id e => by have := this.1 id e; omega, fun id off e => by have := this.2 id off e; omega⟩
    | _ => cases hu.1
theorem presC_pre {b : List Ob} {fid : Nat} {h : List Ob} {vs : List V} (hp : Pre b h) : ∀ (T : List (Nat × Spec)) {v : V} {h' : List Ob}, presC fid h b vs T = true → (callV fid h vs T).got v h' → Pre b h'
  | [], v, h', hbs, hg => hg.elim
  | (g, sp) :: r, v, h', hbs, hg => by
    unfold callV at hg
    simp only [presC] at hbs
    cases hb : Nat.beq g fid with
    | false => rw [hb, cond_false] at hg hbs; exact presC_pre hp r hbs hg
    | true =>
      rw [hb, cond_true] at hg hbs
      split at hg
      · rename_i x1 o1 b1 hrd1
        rw [hrd1] at hbs
        dsimp only at hg hbs
        have hp1 : Pre b (bif sp.plain then h else froIds h b1) := by
          cases sp.plain with
          | true => exact hp
          | false => exact hp.froIds _
        generalize (bif sp.plain then h else froIds h b1) = H at hg hp1 hbs
        split at hg
        · rename_i x o b' hrd
          rw [hrd] at hbs
          dsimp only at hbs
          rw [Bool.and_eq_true] at hbs
          split at hg
          · obtain ⟨y, _, _, rfl⟩ := hg
            show Pre b (aftH H o sp vs y)
            unfold aftH aftM
            exact Pre.swapV hp1.far _ _ ((hp1.kill _ hbs.1).app _) hbs.2 (mk_ge _ _ _ (upd_upd _ _ (Nat.le_refl _)))
          · exact hg.elim
        · exact hg.elim
      · rename_i hn
        rw [hn] at hbs
        exact presC_pre hp r hbs hg

theorem under_got {c : Bool} {o : Out} {v : V} {h : List Ob} (hg : (o.under c).got v h) : o.got v h := by
  cases o with
  | no => exact hg
  | val v' h' => exact hg.2
  | chk d v' h' =>
    have h1 := hg.1
    rw [Bool.and_eq_true] at h1
    exact ⟨h1.2, hg.2⟩
  | call => exact hg.elim

theorem rw_pres {b h : List Ob} (hp : Pre b h) {op : Op} {env : Env} {gs : List (Nat × Bool)} {r : Out} (hrw : rwV C op env h gs = some r) (h1 : ∀ t a, op ≠ .load t a) (h2 : ∀ t x i, op ≠ .indexAddr t x i) (h3 : ∀ t a v, op ≠ .store t a v) (h4 : ∀ t x lo hi m, op ≠ .slice t x lo hi m)
    {v : V} {h' : List Ob} (hg : r.got v h') : Pre b h' := by
  unfold rwV at hrw
  split at hrw
  · split at hrw
    · injection hrw with hrw
      subst hrw
      unfold makeRwV at hg
      split at hg
      · split at hg
        · exact hg.2.2 ▸ hp.app _
        · exact hg.elim
      · exact hg.elim
    · cases hrw
  · exact absurd rfl (h2 _ _ _)
  · exact absurd rfl (h1 _ _)
  · exact absurd rfl (h3 _ _ _)
  · exact absurd rfl (h4 _ _ _ _ _)
  · cases hrw
theorem pres_ok {b h : List Ob} (hp : Pre b h) {o : Oper} {env : Env} {gs : List (Nat × Bool)} (hpr : presO T o env gs b h = true) {v : V} {h' : List Ob} (hg : (evalCall C T o env h gs).got v h') : Pre b h' := by
  unfold presO at hpr
  unfold evalCall at hg
  split at hg
  · rename_i f args ats hop
    rw [hop] at hpr
    dsimp only at hpr
    split at hg
    · rename_i fid cs hf
      rw [hf] at hpr
      split at hg
      · obtain ⟨y, _, _, rfl⟩ := hg
        exact hp
      · rw [Bool.or_eq_true] at hpr
        rcases hpr with hpr | hpr
        · exact call_pre hp T hpr hg
        · exact presC_pre hp T hpr hg
    · exact hg.elim
  · rename_i op hne
    cases hrw : rwV C o.op env h gs with
    | some r =>
      rw [hrw] at hg
      exact rw_pres hp hrw (fun t a e => by rw [e] at hpr; cases hpr) (fun t x i e => by rw [e] at hpr; cases hpr) (fun t a v e => by rw [e] at hpr; cases hpr) (fun t x lo hi m e => by rw [e] at hpr; cases hpr) hg
    | none =>
    rw [hrw] at hg
    dsimp only at hg
    split at hpr <;> try (cases hpr; done)
    · rename_i hop
      rw [hop] at hg
      simp only [evalOp] at hg
      split at hg
      · exact hg.2 ▸ hp.app _
      · exact hg.elim
    · rename_i hop
      rw [hop] at hg
      simp only [evalOp] at hg
      split at hg
      · exact hg.2 ▸ hp.app _
      · exact hg.elim
    · rename_i hop
      rw [hop] at hg
      simp only [evalOp] at hg
      unfold buildSliceV at hg
      split at hg
      · split at hg
        · split at hg
          · split at hg
            · exact hg.2 ▸ (hp.froL _).app _
            · exact hg.elim
          · exact hg.elim
        · exact hg.elim
      · exact hg.elim
    · rename_i hop
      rw [hop] at hg
      simp only [evalOp] at hg
      unfold makeSliceV at hg
      split at hg
      · split at hg
        · split at hg
          · exact hg.2.2 ▸ hp.app _
          · exact hg.elim
        · exact hg.elim
      · exact hg.elim
    · rename_i hop
      rw [hop] at hg
      simp only [evalOp] at hg
      split at hg
      · unfold convV at hg
        split at hg
        · exact hg.2 ▸ hp
        · exact hg.2 ▸ hp
        · exact hg.2 ▸ hp
        · split at hg
          · split at hg
            · exact hg.2 ▸ hp
            · exact hg.elim
          · exact hg.elim
        · split at hg
          · exact hg.2 ▸ hp.app _
          · exact hg.elim
        · exact hg.elim
      · exact hg.elim
    · rename_i hop
      exact absurd hop (hne _ _ _)
    · rename_i args ats hop
      rw [hop] at hg
      simp only [evalOp] at hg
      split at hpr
      · rename_i x r hargs
        split at hg
        · rename_i x' y' t u hx hat
          have hxx : x' = x := by rw [hargs] at hx; injection hx with q1 q2; exact q1.symm
          subst hxx
          unfold appendV at hg
          split at hg
          · split at hg
            · split at hg
              · split at hg
                · exact hg.2.2 ▸ hp.app _
                · rename_i id hid
                  rw [hid] at hpr
                  split at hg
                  · split at hg
                    · exact hg.2.2 ▸ (hp.dead2 hpr).app _
                    · exact hg.elim
                  · exact hg.elim
                · exact hg.elim
              · exact hg.elim
            · exact hg.elim
          · exact hg.elim
        · exact hg.elim
      · cases hpr

/-! ### the arms of the evaluation -/
theorem out_go {R : Type} {O : Out} {go : V → List Ob → Option R} {res : R} (h : (match O with
    | .no => none
    | .val v h' => go v h'
    | .chk c v h' => bif c then go v h' else none
    | .call _ _ q v h' => q.bind fun y => go (v y) (h' y)) = some res) : ∃ v h', O.got v h' ∧ go v h' = some res := by
  cases O with
  | no => cases h
  | val v h' => exact ⟨v, h', ⟨rfl, rfl⟩, h⟩
  | chk c v h' =>
    cases c with
    | true => exact ⟨v, h', ⟨rfl, rfl, rfl⟩, h⟩
    | false => cases h
  | call W d q v h' =>
    obtain ⟨y, hy, h⟩ := Option.bind_eq_some_iff.1 h
    exact ⟨v y, h' y, ⟨y, hy, rfl, rfl⟩, h⟩
theorem out_calm {R : Type} {O : Out} {x : Bool} {go : V → Option R} {res : R} {sk : Option R} (h : (match O with
    | .no => bif x then none else sk
    | .val v _ => go v
    | .chk c v _ => bif (bif x then c else true) then go v else none
    | .call _ y q v _ => (bif x then q else some y).bind fun y => go (v y)) = some res) : (x = false ∧ sk = some res) ∨ ∃ v, go v = some res ∧ (x = true → ∃ h', O.got v h') := by
  cases O with
  | no =>
    cases x with
    | true => cases h
    | false => exact .inl ⟨rfl, h⟩
  | val v h' => exact .inr ⟨v, h, fun _ => ⟨h', rfl, rfl⟩⟩
  | chk c v h' =>
    cases hc : (bif x then c else true) with
    | false => dsimp only at h; rw [hc] at h; cases h
    | true =>
      dsimp only at h
      rw [hc] at h
      refine .inr ⟨v, h, fun hx => ⟨h', ?_, rfl, rfl⟩⟩
      subst hx
      exact hc
  | call W d q v h' =>
    obtain ⟨y, hy, h⟩ := Option.bind_eq_some_iff.1 h
    refine .inr ⟨v y, h, fun hx => ⟨h' y, y, ?_, rfl, rfl⟩⟩
    subst hx
    exact hy
theorem out_op {R : Type} {O : Out} {go : V → Option R} {res : R} (h : (match O with
    | .val v _ => go v
    | .chk c v _ => bif c then go v else none
    | _ => none) = some res) : ∃ v, go v = some res ∧ ∀ h', (O.at h').got v h' := by
  cases O with
  | no => cases h
  | val v h' => exact ⟨v, h, fun _ => ⟨rfl, rfl⟩⟩
  | chk c v h' =>
    cases c with
    | true => exact ⟨v, h, fun _ => ⟨rfl, rfl, rfl⟩⟩
    | false => cases h
  | call => cases h
theorem out_opg {R : Type} {O : Out} {x : Bool} {go : V → Option R} {res : R} {sk : Option R} (h : (match O with
    | .val v _ => go v
    | .chk c v _ => bif (bif x then c else true) then go v else none
    | .no => bif x then none else sk
    | .call .. => none) = some res) : (x = false ∧ sk = some res) ∨ ∃ v, go v = some res ∧ (x = true → ∀ h', (O.at h').got v h') ∧ O ≠ .no := by
  cases O with
  | no =>
    cases x with
    | true => cases h
    | false => exact .inl ⟨rfl, h⟩
  | val v h' => exact .inr ⟨v, h, fun _ _ => ⟨rfl, rfl⟩, fun e => by cases e⟩
  | chk c v h' =>
    cases hc : (bif x then c else true) with
    | false => dsimp only at h; rw [hc] at h; cases h
    | true =>
      dsimp only at h
      rw [hc] at h
      refine .inr ⟨v, h, fun hx _ => ⟨?_, rfl, rfl⟩, fun e => by cases e⟩
      subst hx
      exact hc
  | call => cases h
end
end Go.Pv
