/- The engine, part 12b: regions without an order. -/
import Derived.Test.YthedngefmaklnaaPv12
import Derived.Orders
namespace Go.Pv
open Go
set_option linter.all false
set_option linter.constructorNameAsVariable false
set_option linter.unusedSectionVars false
set_option linter.unusedVariables false
set_option linter.unusedSimpArgs false

/-! ### outcomes -/
def Out.got : Out → V → List Ob → Prop
  | .no, _, _ => False
  | .val v' h', v, h => v' = v ∧ h' = h
  | .chk c v' h', v, h => c = true ∧ v' = v ∧ h' = h
  | .call _ _ q vf hf, v, h => ∃ y, q = some y ∧ vf y = v ∧ hf y = h
def Out.at : Out → List Ob → Out
  | .no, _ => .no
  | .val v _, h => .val v h
  | .chk c v _, h => .chk c v h
  | .call W d q v hf, _ => .call W d q v hf

theorem at_under (c : Bool) (o : Out) (h : List Ob) : (o.under c).at h = (o.at h).under c := by cases o <;> rfl
theorem grp_at (b h : List Ob) (g : Bool) (vs : Option (List V)) : grp h g vs = (grp b g vs).at h := by
  unfold grp
  cases vs with
  | none => rfl
  | some vs =>
    cases g with
    | true => rfl
    | false => 
      cases vs with
      | nil => rfl
      | cons v r => cases r <;> rfl

/-- The objects that were there. -/
def Pre (b h : List Ob) : Prop := ∀ (id : Nat) (ob : Ob), nth b id = some ob → nth h id = some ob ∨ ∃ e xs, ob = .row e xs ∧ nth h id = some (.fro e xs)
theorem Pre.refl (h : List Ob) : Pre h h := fun _ _ k => .inl k

theorem imm1_pre {b h : List Ob} (hp : Pre b h) (v : V) : imm1 b v = .u ∨ imm1 h v = imm1 b v := by
  cases v with
  | row id =>
    simp only [imm1]
    cases hb : nth b id with
    | none => exact .inl rfl
    | some ob =>
      rcases hp id ob hb with k | ⟨e, xs, rfl, k⟩
      · rw [k]; exact .inr rfl
      · rw [k]; exact .inr rfl
  | _ => exact .inr rfl

section
variable {C : Cfg} {T : List (Nat × Spec)}

theorem load_pre {b h : List Ob} (hp : Pre b h) (t : TypeId) (a : V) : loadV C b t a = .no ∨ loadV C h t a = (loadV C b t a).at h := by
  unfold loadV
  cases C.size t with
  | none => exact .inl rfl
  | some n =>
    cases C.isAgg t with
    | none => exact .inl rfl
    | some g =>
      cases a with
      | ptr id off =>
        dsimp only
        cases hb : nth b id with
        | none => exact .inl rfl
        | some ob =>
          rcases hp id ob hb with k | ⟨e, xs, rfl, k⟩
          · rw [k]
            cases ob with
            | box vs => exact .inr (grp_at _ _ _ _)
            | _ => exact .inl rfl
          · exact .inl rfl
      | pim vs => exact .inr (grp_at _ _ _ _)
      | pel e id i off =>
        dsimp only
        rcases imm1_pre hp (.row id) with k | k
        · rw [k]; exact .inl rfl
        · rw [k]
          cases asL e (imm1 b (.row id)) with
          | none => exact .inl rfl
          | some xs => right; dsimp only; rw [at_under, grp_at b]
      | _ => exact .inl rfl

theorem idx_pre {b h : List Ob} (hp : Pre b h) (t : TypeId) (x i : V) : idxAddr C b t x i = .no ∨ idxAddr C h t x i = (idxAddr C b t x i).at h := by
  unfold idxAddr
  cases C.elem t with
  | none => exact .inl rfl
  | some te =>
    cases i with
    | i k n =>
      dsimp only
      cases C.tyOf te with
      | none => exact .inl rfl
      | some τ =>
        dsimp only
        rcases imm1_pre hp x with k | k
        · rw [k]; exact .inl rfl
        · rw [k]
          cases asL τ (imm1 b x) <;> exact .inr rfl
    | _ => exact .inl rfl

theorem len_pre {b h : List Ob} (hp : Pre b h) (t : TypeId) (x : V) : lenV C b t x = .no ∨ lenV C h t x = (lenV C b t x).at h := by
  unfold lenV
  rcases imm1_pre hp x with k | k
  · rw [k]
    left
    split <;> first | rfl | (rename_i q; cases q)
  · rw [k]
    right
    split <;> rfl

theorem read_at {b h : List Ob} (hp : Pre b h) (op : Op) (env : Env) (gs : List (Nat × Bool)) (hk : kind C op = .read) : evalOp C op env b gs = .no ∨ evalOp C op env h gs = (evalOp C op env b gs).at h := by
  unfold kind at hk
  split at hk <;> try (cases hk; done)
  · exact load_pre hp _ _
  · exact idx_pre hp _ _ _
  · unfold evalOp
    dsimp only
    split
    · exact len_pre hp _ _
    · exact .inl rfl
  · split at hk <;> cases hk

theorem binV_at (b h : List Ob) (op : BinOp) (t : TypeId) (x y : V) : binV C h op t x y = (binV C b op t x y).at h := by
  have bi : ∀ (op : BinOp) (k : IntKind) (m n : Int), binI h op k m n = (binI b op k m n).at h := by
    intro op k m n
    unfold binI
    cases op <;> first | rfl | (dsimp only; split <;> rfl)
  have si : ∀ (op : BinOp) (k : IntKind) (m n : Int), shI h op k m n = (shI b op k m n).at h := by
    intro op k m n
    unfold shI
    cases op <;> first | rfl | (dsimp only; split <;> rfl)
  have bs : ∀ (op : BinOp) (m n : ByteArray), binS h op m n = (binS b op m n).at h := by
    intro op m n
    unfold binS
    cases op <;> rfl
  unfold binV
  cases x <;> try rfl
  · cases y <;> try rfl
    cases op <;> try rfl
    all_goals (cases C.P.underlying t with
      | none => rfl
      | some d => cases d <;> rfl)
  · cases y <;> try rfl
    rename_i k m k' n
    cases op <;> first | exact si _ _ _ _ | (dsimp only; split <;> first | exact bi _ _ _ _ | rfl)
  · cases y <;> try rfl
    exact bs _ _ _
  · cases y <;> try rfl
    rename_i xs ys
    dsimp only
    cases eqAgg C t xs ys with
    | none => cases op <;> rfl
    | some r => cases op <;> rfl

theorem free_at (b h : List Ob) (op : Op) (env : Env) (gs : List (Nat × Bool)) (hk : kind C op = .free) : evalOp C op env h gs = (evalOp C op env b gs).at h := by
  unfold kind at hk
  split at hk <;> try (cases hk; done)
  · rfl
  · rfl
  · unfold evalOp; dsimp only; split <;> rfl
  · unfold evalOp buildV
    dsimp only
    split
    · split
      · split <;> rfl
      · rfl
    · rfl
  · unfold evalOp; dsimp only; split <;> rfl
  · exact binV_at _ _ _ _ _ _
  · unfold evalOp unV; dsimp only; split <;> rfl
  · unfold evalOp; dsimp only; split <;> rfl
  · unfold evalOp offV
    dsimp only
    split
    · split
      · split <;> rfl
      · rfl
    · rfl
  · unfold evalOp
    dsimp only
    split
    · split
      · exact grp_at _ _ _ _
      · rfl
    · rfl
  · unfold evalOp; dsimp only; split <;> rfl
  · unfold evalOp
    dsimp only
    split
    · split <;> rfl
    · rfl
  · unfold evalOp minV
    dsimp only
    split
    · split
      · split <;> rfl
      · rfl
    · rfl
  · unfold evalOp minV
    dsimp only
    split
    · split
      · split <;> rfl
      · rfl
    · rfl
  · split at hk
    · rename_i k hu
      unfold evalOp convV
      dsimp only
      rw [hu]
      generalize (ung gs _) = u
      split
      · cases u <;> rfl
      · rfl
    · cases hk

theorem evalCall_kind (o : Oper) (env : Env) (h : List Ob) (gs : List (Nat × Bool)) (hk : kind C o.op ≠ .chain) : evalCall C T o env h gs = evalOp C o.op env h gs := by
  unfold evalCall
  split
  · rename_i hop
    rw [hop] at hk
    exact absurd rfl hk
  · rfl

theorem got_ok (hT : ∀ p, p ∈ T → Snd C p.1 p.2) {G : Gh C.gl} {w : World} {h : List Ob} (hm : Mem G w h) {env : Env} {a : Act} (he : EnvR G w env a.tmps) {gs : List (Nat × Bool)} (hg : Met a.tmps gs) (o : Oper) {v : V} {h' : List Ob}
    (hgot : (evalCall C T o env h gs).got v h') {next : Act → World → Prop} {Q : Exit → Act → World → Prop}
    (hn : ∀ val w' G', Rel G' w' v val → Mem G' w' h' → Subs G w G' w' → Ext G w G' w' → next (a.put o.dst val) w') : o.wp C.P a w next Q := by
  have hok := evalCall_ok hT hm he hg o
  cases hO : evalCall C T o env h gs with
  | no => rw [hO] at hgot; exact hgot.elim
  | val v1 h1 =>
    rw [hO] at hgot hok
    obtain ⟨rfl, rfl⟩ := hgot
    exact wp_did hok hn
  | chk c v1 h1 =>
    rw [hO] at hgot hok
    obtain ⟨hc, rfl, rfl⟩ := hgot
    exact wp_did (hok hc) hn
  | call W d q vf hf =>
    rw [hO] at hgot hok
    obtain ⟨y, hy, rfl, rfl⟩ := hgot
    obtain ⟨fid, args, hrun, hcalls⟩ := hok
    unfold Oper.wp
    rw [hrun, Oper.upon_enter]
    refine Calls.mono (hcalls y hy) ?_
    rintro e w' ⟨val, G', rfl, k1, k2, k3, k4⟩
    exact hn val w' G' k2 k1 k3 k4
end
end Go.Pv
