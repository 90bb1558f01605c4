/- The engine, part 12b: regions without an order. -/
import Derived.Test.YtfnhnkaikpgnbaaPv12
import Derived.Orders
namespace Go.Pv
open Go
set_option linter.all false
set_option linter.constructorNameAsVariable false
set_option linter.unusedSectionVars false
set_option linter.unusedVariables false
set_option linter.unusedSimpArgs false

/-! ### outcomes -/
def Out.got : Out → V → List Ob → Prop
  | .no, _, _ => False
  | .val v' h', v, h => v' = v ∧ h' = h
  | .chk c v' h', v, h => c = true ∧ v' = v ∧ h' = h
  | .call _ _ q vf hf, v, h => ∃ y, q = some y ∧ vf y = v ∧ hf y = h
def Out.at : Out → List Ob → Out
  | .no, _ => .no
  | .val v _, h => .val v h
  | .chk c v _, h => .chk c v h
  | .call W d q v hf, _ => .call W d q v hf

theorem at_under (c : Bool) (o : Out) (h : List Ob) : (o.under c).at h = (o.at h).under c := by cases o <;> rfl
theorem grp_at (b h : List Ob) (g : Bool) (vs : Option (List V)) : grp h g vs = (grp b g vs).at h := by
  unfold grp
  cases vs with
  | none => rfl
  | some vs =>
    cases g with
    | true => rfl
    | false => 
      cases vs with
      | nil => rfl
      | cons v r => cases r <;> rfl

/-- The objects that were there. -/
def Pre (b h : List Ob) : Prop := ∀ (id : Nat) (ob : Ob), nth b id = some ob → ob = .dead ∨ nth h id = some ob ∨ ∃ e xs, ob = .row e xs ∧ nth h id = some (.fro e xs)
theorem Pre.refl (h : List Ob) : Pre h h := fun _ _ k => .inr (.inl k)
theorem Pre.deadB : ∀ (ids : List Nat) {b h : List Ob}, Pre b h → Pre (deadB ids b) h
  | [], b, h, hp => hp
  | i :: r, b, h, hp => Pre.deadB r fun id ob hid => by
    rw [setn_eq, nth_eq] at hid
    by_cases he : i = id
    · subst he
      have hlt := (List.getElem?_eq_some_iff.1 hid).1
      rw [List.length_set] at hlt
      rw [List.getElem?_set_self hlt] at hid
      injection hid with hid
      exact .inl hid.symm
    · rw [List.getElem?_set_ne he, ← nth_eq] at hid
      exact hp id ob hid

theorem imm1_pre {b h : List Ob} (hp : Pre b h) (v : V) : imm1 b v = .u ∨ imm1 h v = imm1 b v := by
  cases v with
  | row id =>
    simp only [imm1]
    cases hb : nth b id with
    | none => exact .inl rfl
    | some ob =>
      rcases hp id ob hb with rfl | k | ⟨e, xs, rfl, k⟩
      · exact .inl rfl
      · rw [k]; exact .inr rfl
      · rw [k]; exact .inr rfl
  | _ => exact .inr rfl

section
variable {C : Cfg} {T : List (Nat × Spec)}

theorem load_pre {b h : List Ob} (hp : Pre b h) (t : TypeId) (a : V) : loadV C b t a = .no ∨ loadV C h t a = (loadV C b t a).at h := by
  unfold loadV
  cases C.size t with
  | none => exact .inl rfl
  | some n =>
    cases C.isAgg t with
    | none => exact .inl rfl
    | some g =>
      cases a with
      | ptr id off =>
        dsimp only
        cases hb : nth b id with
        | none => exact .inl rfl
        | some ob =>
          rcases hp id ob hb with rfl | k | ⟨e, xs, rfl, k⟩
          · exact .inl rfl
          · rw [k]
            cases ob with
            | box vs => exact .inr (grp_at _ _ _ _)
            | _ => exact .inl rfl
          · exact .inl rfl
      | pim vs => exact .inr (grp_at _ _ _ _)
      | pel e id i off =>
        dsimp only
        rcases imm1_pre hp (.row id) with k | k
        · rw [k]; exact .inl rfl
        · rw [k]
          cases asL e (imm1 b (.row id)) with
          | none => exact .inl rfl
          | some xs => right; dsimp only; rw [at_under, grp_at b]
      | _ => exact .inl rfl

theorem idx_pre {b h : List Ob} (hp : Pre b h) (t : TypeId) (x i : V) : idxAddr C b t x i = .no ∨ idxAddr C h t x i = (idxAddr C b t x i).at h := by
  unfold idxAddr
  cases C.elem t with
  | none => exact .inl rfl
  | some te =>
    cases i with
    | i k n =>
      dsimp only
      cases C.tyOf te with
      | none => exact .inl rfl
      | some τ =>
        dsimp only
        rcases imm1_pre hp x with k | k
        · rw [k]; exact .inl rfl
        · rw [k]
          cases asL τ (imm1 b x) <;> exact .inr rfl
    | _ => exact .inl rfl

theorem len_pre {b h : List Ob} (hp : Pre b h) (t : TypeId) (x : V) : lenV C b t x = .no ∨ lenV C h t x = (lenV C b t x).at h := by
  unfold lenV
  rcases imm1_pre hp x with k | k
  · rw [k]
    left
    split <;> first | rfl | (rename_i q; cases q)
  · rw [k]
    right
    split <;> rfl

theorem read_at {b h : List Ob} (hp : Pre b h) (op : Op) (env : Env) (gs : List (Nat × Bool)) (hk : kind C op = .read) : evalOp C op env b gs = .no ∨ evalOp C op env h gs = (evalOp C op env b gs).at h := by
  unfold kind at hk
  split at hk <;> try (cases hk; done)
  · exact load_pre hp _ _
  · exact idx_pre hp _ _ _
  · unfold evalOp
    dsimp only
    split
    · exact len_pre hp _ _
    · exact .inl rfl
  · split at hk <;> cases hk

theorem binV_at (b h : List Ob) (op : BinOp) (t : TypeId) (x y : V) : binV C h op t x y = (binV C b op t x y).at h := by
  have bi : ∀ (op : BinOp) (k : IntKind) (m n : Int), binI h op k m n = (binI b op k m n).at h := by
    intro op k m n
    unfold binI
    cases op <;> first | rfl | (dsimp only; split <;> rfl)
  have si : ∀ (op : BinOp) (k : IntKind) (m n : Int), shI h op k m n = (shI b op k m n).at h := by
    intro op k m n
    unfold shI
    cases op <;> first | rfl | (dsimp only; split <;> rfl)
  have bs : ∀ (op : BinOp) (m n : ByteArray), binS h op m n = (binS b op m n).at h := by
    intro op m n
    unfold binS
    cases op <;> rfl
  unfold binV
  cases x <;> try rfl
  · cases y <;> try rfl
    cases op <;> try rfl
    all_goals (cases C.P.underlying t with
      | none => rfl
      | some d => cases d <;> rfl)
  · cases y <;> try rfl
    rename_i k m k' n
    cases op <;> first | exact si _ _ _ _ | (dsimp only; split <;> first | exact bi _ _ _ _ | rfl)
  · cases y <;> try rfl
    exact bs _ _ _
  · cases y <;> try rfl
    cases op <;> rfl
  · cases y <;> try rfl
    cases op <;> try rfl
    all_goals (cases C.P.underlying t with
      | none => rfl
      | some d => cases d <;> rfl)
  · cases y <;> try rfl
    rename_i xs ys
    dsimp only
    cases eqAgg C t xs ys with
    | none => cases op <;> rfl
    | some r => cases op <;> rfl

theorem free_at0 (b h : List Ob) (op : Op) (env : Env) (gs : List (Nat × Bool)) (hk : kind C op = .free) (hs : ∀ t x lo hi m, op ≠ .slice t x lo hi m) (hb : ∀ t n p, op ≠ .buildSlice t (n + 1) p) : evalOp C op env h gs = (evalOp C op env b gs).at h := by
  unfold kind at hk
  split at hk <;> try (cases hk; done)
  · rfl
  · rfl
  · unfold evalOp; dsimp only; split <;> rfl
  · unfold evalOp buildV
    dsimp only
    split
    · split
      · split <;> rfl
      · rfl
    · rfl
  · unfold evalOp; dsimp only; split <;> rfl
  · exact binV_at _ _ _ _ _ _
  · unfold evalOp unV; dsimp only; split <;> rfl
  · unfold evalOp; dsimp only; split <;> rfl
  · unfold evalOp offV
    dsimp only
    split
    · split
      · split <;> rfl
      · rfl
    · rfl
  · unfold evalOp
    dsimp only
    split
    · split
      · exact grp_at _ _ _ _
      · rfl
    · rfl
  · unfold evalOp; dsimp only; split <;> rfl
  · unfold evalOp
    dsimp only
    split
    · split <;> rfl
    · rfl
  · exact absurd rfl (hs _ _ _ _ _)
  · exact absurd rfl (hb _ _ _)
  · unfold evalOp minV
    dsimp only
    split
    · split
      · split <;> rfl
      · rfl
    · rfl
  · unfold evalOp minV
    dsimp only
    split
    · split
      · split <;> rfl
      · rfl
    · rfl
  · unfold evalOp cplV
    dsimp only
    split
    · split <;> rfl
    · rfl
  · split at hk
    · rename_i k hu
      unfold evalOp convV
      dsimp only
      rw [hu]
      generalize (ung gs _) = u
      split
      · cases u <;> rfl
      · rfl
    · cases hk

theorem slice_pre (h : List Ob) (t : TypeId) (x : V) (lo hi : Option V) : sliceV C [] t x lo hi = .no ∨ sliceV C h t x lo hi = (sliceV C [] t x lo hi).at h := by
  have key : ∀ x : V, (∀ id, x ≠ .row id) → imm1 h x = imm1 [] x ∧ fro1 h x = h := fun x hx => by
    cases x with
    | row id => exact absurd rfl (hx id)
    | _ => exact ⟨rfl, rfl⟩
  have gen : ∀ x : V, (∀ id, x ≠ .row id) → (∀ a, x ≠ .s a) → sliceV C h t x lo hi = (sliceV C [] t x lo hi).at h := fun x hx hs => by
    obtain ⟨k1, k2⟩ := key x hx
    cases x with
    | s a => exact absurd rfl (hs a)
    | row id => exact absurd rfl (hx id)
    | _ =>
      unfold sliceV
      dsimp only
      rw [k1, k2]
      cases C.elem t with
      | none => rfl
      | some te =>
        dsimp only
        cases C.tyOf te with
        | none => rfl
        | some τ =>
          dsimp only
          split
          · split
            · rfl
            · rfl
          · rfl
  cases x with
  | row id =>
    left
    unfold sliceV
    dsimp only
    cases C.elem t with
    | none => rfl
    | some te =>
      dsimp only
      cases C.tyOf te with
      | none => rfl
      | some τ =>
        dsimp only
        have : asL τ (imm1 [] (.row id)) = none := by cases τ <;> rfl
        rw [this]
  | s a =>
    right
    unfold sliceV
    dsimp only
    split <;> rfl
  | _ => exact .inr (gen _ (fun _ e => by cases e) (fun _ e => by cases e))
theorem evalD_op {op : Op} (hb : ∀ t n p, op ≠ .buildSlice t (n + 1) p) (env : Env) (h : List Ob) (gs : List (Nat × Bool)) : evalD C op env h gs = evalOp C op env h gs := by
  unfold evalD
  split
  · exact absurd rfl (hb _ _ _)
  · rfl
theorem evalW_call {o : Oper} (hb : ∀ t n p, o.op ≠ .buildSlice t (n + 1) p) (hl : ∀ t a, o.op ≠ .load t a) (hx : ∀ t x i, o.op ≠ .indexAddr t x i) (hsl : ∀ t x lo hi m, o.op ≠ .slice t x lo hi m) (env : Env) (h : List Ob) (gs : List (Nat × Bool)) : evalW C T o env h gs = evalCall C T o env h gs := by
  unfold evalW
  split
  · rename_i hop
    exact absurd hop (hb _ _ _)
  · rename_i hop
    exact absurd hop (hl _ _)
  · rename_i hop
    exact absurd hop (hx _ _ _)
  · rename_i hop
    exact absurd hop (hsl _ _ _ _ _)
  · rfl
theorem free_at (h : List Ob) (op : Op) (env : Env) (gs : List (Nat × Bool)) (hk : kind C op = .free) : evalD C op env [] gs = .no ∨ evalD C op env h gs = (evalD C op env [] gs).at h := by
  by_cases hb : ∀ t n p, op ≠ .buildSlice t (n + 1) p
  · rw [evalD_op hb, evalD_op hb]
    by_cases hs : ∀ t x lo hi m, op ≠ .slice t x lo hi m
    · exact .inr (free_at0 [] h op env gs hk hs hb)
    · simp only [Classical.not_forall, Classical.not_not] at hs
      obtain ⟨t, x, lo, hi, m, rfl⟩ := hs
      cases m with
      | some m => exact .inl rfl
      | none => exact slice_pre h t _ _ _
  · simp only [Classical.not_forall, Classical.not_not] at hb
    obtain ⟨t, n, p, rfl⟩ := hb
    right
    unfold evalD listV
    dsimp only
    split
    · split
      · split
        · split <;> rfl
        · rfl
      · rfl
    · rfl
theorem read_at' {b h : List Ob} (hp : Pre b h) (op : Op) (env : Env) (gs : List (Nat × Bool)) (hk : kind C op = .read) : evalD C op env b gs = .no ∨ evalD C op env h gs = (evalD C op env b gs).at h := by
  have hb : ∀ t n p, op ≠ .buildSlice t (n + 1) p := fun t n p e => by rw [e] at hk; cases hk
  rw [evalD_op hb, evalD_op hb]
  exact read_at hp op env gs hk

theorem rwV_none {op : Op} {env : Env} {h : List Ob} {gs : List (Nat × Bool)} (hk : kind C op ≠ .chain) (hl : ∀ t a, op ≠ .load t a) (hx : ∀ t x i, op ≠ .indexAddr t x i) (hsl : ∀ t x lo hi m, op ≠ .slice t x lo hi m) : rwV C op env h gs = none := by
  unfold rwV
  split
  · exact absurd rfl hk
  · exact absurd rfl (hx _ _ _)
  · exact absurd rfl (hl _ _)
  · exact absurd rfl hk
  · exact absurd rfl (hsl _ _ _ _ _)
  · rfl
theorem evalCall_kind (o : Oper) (env : Env) (h : List Ob) (gs : List (Nat × Bool)) (hk : kind C o.op ≠ .chain) (hl : ∀ t a, o.op ≠ .load t a) (hx : ∀ t x i, o.op ≠ .indexAddr t x i) (hsl : ∀ t x lo hi m, o.op ≠ .slice t x lo hi m) : evalCall C T o env h gs = evalOp C o.op env h gs := by
  unfold evalCall
  split
  · rename_i hop
    rw [hop] at hk
    exact absurd rfl hk
  · rw [rwV_none hk hl hx hsl]

theorem evalW_kind (o : Oper) (env : Env) (h : List Ob) (gs : List (Nat × Bool)) (hk : kind C o.op ≠ .chain) : evalW C T o env h gs = evalD C o.op env h gs := by
  unfold evalW evalD
  split
  · rename_i hop
    rw [hop]
  · rename_i hop
    rw [hop]
  · rename_i hop
    rw [hop]
  · rename_i hop
    rw [hop]
  · rename_i hb hl hx hsl
    rw [evalCall_kind o env h gs hk hl hx hsl]
    split
    · rename_i hop
      exact absurd hop (hb _ _ _)
    · rfl
theorem evalW_chain (o : Oper) (env : Env) (h : List Ob) (gs : List (Nat × Bool)) (hk : kind C o.op = .chain) : evalW C T o env h gs = evalCall C T o env h gs :=
  evalW_call (fun t n p e => by rw [e] at hk; cases hk) (fun t a e => by rw [e] at hk; cases hk) (fun t x i e => by rw [e] at hk; cases hk) (fun t x lo hi m e => by rw [e] at hk; cases hk) env h gs
theorem evalW_ok (hT : ∀ p, p ∈ T → Snd C p.1 p.2) {G : Gh C.gl} {w : World} {h : List Ob} (hm : Mem G w h) {env : Env} {a : Act} (he : EnvR G w env a.tmps) {gs : List (Nat × Bool)} (hg : Met a.tmps gs) (o : Oper) :
    OperOk C G w o a (evalW C T o env h gs) := by
  have gen : ∀ {out : Out}, OutOk G w ((execOp a.eval o).run C.P w) out → OperOk C G w o a out := fun {out} hok => by
    cases out with
    | no => trivial
    | val v h' => exact hok
    | chk c v h' => exact hok
    | call W d q v h' => exact hok.elim
  by_cases hb : ∀ t n p, o.op ≠ .buildSlice t (n + 1) p
  · have hok := evalOp_ok (C := C) hm he hg o
    unfold evalW
    split
    · rename_i hop
      exact absurd hop (hb _ _ _)
    · rename_i hop
      rw [hop] at hok
      exact gen hok
    · rename_i hop
      rw [hop] at hok
      exact gen hok
    · rename_i hop
      rw [hop] at hok
      exact gen hok
    · exact evalCall_ok hT hm he hg o
  · simp only [Classical.not_forall, Classical.not_not] at hb
    obtain ⟨t, n, parts, hop⟩ := hb
    have hr : ∀ x, Rel G w (ung gs (opnd env x)) (a.eval x) := fun x => ung_rel hg (opnd_rel he x)
    obtain ⟨h1, h2⟩ := parts_rel hr parts
    have hl := listV_ok (C := C) hm t (n + 1) _ _ h1 h2
    unfold evalW
    rw [hop]
    dsimp only
    cases hL : listV C h t (n + 1) (parts.toList.map fun p => (p.1, ung gs (opnd env p.2))) with
    | no => trivial
    | val v h' => rw [hL] at hl; unfold OperOk execOp; rw [hop]; exact hl
    | chk c v h' => rw [hL] at hl; unfold OperOk execOp; rw [hop]; exact hl
    | call W d q v h' => rw [hL] at hl; exact hl.elim

theorem got_ok (hT : ∀ p, p ∈ T → Snd C p.1 p.2) {G : Gh C.gl} {w : World} {h : List Ob} (hm : Mem G w h) {env : Env} {a : Act} (he : EnvR G w env a.tmps) {gs : List (Nat × Bool)} (hg : Met a.tmps gs) (o : Oper) {v : V} {h' : List Ob}
    (hgot : (evalW C T o env h gs).got v h') {next : Act → World → Prop} {Q : Exit → Act → World → Prop}
    (hn : ∀ val w' G', Rel G' w' v val → Mem G' w' h' → Subs G w G' w' → Ext G w G' w' → next (a.put o.dst val) w') : o.wp C.P a w next Q := by
  have hok := evalW_ok hT hm he hg o
  cases hO : evalW C T o env h gs with
  | no => rw [hO] at hgot; exact hgot.elim
  | val v1 h1 =>
    rw [hO] at hgot hok
    obtain ⟨rfl, rfl⟩ := hgot
    exact wp_did hok hn
  | chk c v1 h1 =>
    rw [hO] at hgot hok
    obtain ⟨hc, rfl, rfl⟩ := hgot
    exact wp_did (hok hc) hn
  | call W d q vf hf =>
    rw [hO] at hgot hok
    obtain ⟨y, hy, rfl, rfl⟩ := hgot
    obtain ⟨fid, args, hrun, hcalls⟩ := hok
    unfold Oper.wp
    rw [hrun, Oper.upon_enter]
    refine Calls.mono (hcalls y hy) ?_
    rintro e w' ⟨val, G', rfl, k1, k2, k3, k4⟩
    exact hn val w' G' k2 k1 k3 k4
end
end Go.Pv
