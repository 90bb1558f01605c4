/- The engine, part 15: what a law's arguments are, and what its row asks. -/
import Derived.Test.YtfnhnkaikpgnbaaPv14
import Derived.ChangeArms
import Derived.DataElems
import Derived.DataReads
import Derived.WideShapes
import Derived.ChangeShapes
import Derived.SizedLaws
import Derived.OpenShut
import Derived.ShutString
import Derived.ChangeOld
import Derived.Below
import Derived.Carry
namespace Go.Pv
open Go
set_option linter.all false
set_option linter.constructorNameAsVariable false
set_option linter.unusedSectionVars false
set_option linter.unusedVariables false
set_option linter.unusedSimpArgs false

inductive ExOk : Ex → Prop
  | mk (kind vk vn : Int) (vs v f : ByteArray) (kids : List Ex) (h1 : (Lit.int .i64 kind).wf = true) (h2 : (Lit.int .i64 vk).wf = true) (h3 : (Lit.int .i64 vn).wf = true) (h4 : vs.size ≤ 140737488351232) (h5 : v.size ≤ 140737488351232) (h6 : f.size ≤ 140737488351232)
      (h7 : kids.length ≤ 140737488351232) (h8 : ∀ k, k ∈ kids → ExOk k) : ExOk (.mk kind vk vn vs v f kids)

/-- What is known of an argument: numbers of their kinds, sizes that may be. -/
def Ty.ok (t : Ty) : t.den → Prop := match t with
  | .b => fun _ => True
  | .y8 => fun _ => True
  | .i k => fun x => (Lit.int k x).wf = true
  | .s => fun x => ByteArray.size x ≤ 140737488351232
  | .l e => fun xs => List.length xs ≤ 140737488351232 ∧ ∀ x, x ∈ (xs : List e.den) → e.ok x
  | .p t1 t2 => fun x => t1.ok x.1 ∧ t2.ok x.2
  | .w t1 => fun x => t1.ok x
  | .ex => fun x => ExOk x
  | .c => fun _ => True

section
variable (C : Cfg)

/-- Are a type's cells laid as its plain type's are? -/
def layFs (lay : TypeId → Bool) (f : Nat) : Nat → List Field → Bool
  | _, [] => true
  | off, x :: r => Nat.beq x.offset off && (match C.size x.type, C.ty f x.type with
    | some n, some τ => Nat.beq n τ.n && (lay x.type && layFs lay f (off + n) r)
    | _, _ => false)
def layEx (lay : TypeId → Bool) (f : Nat) : Bool :=
  match C.P.underlying C.ex with
  | some (.struct fs) => (match fs.toList with
    | [f0, f1, f2, f3, f4] =>
      Nat.beq f0.offset 0 && (Nat.beq f1.offset 1 && (Nat.beq f2.offset 4 && (Nat.beq f3.offset 5 && (Nat.beq f4.offset 6 &&
      (decide (C.ty f f0.type = some (.i .i64)) && (decide (C.ty f f1.type = some (.p (.i .i64) (.p (.i .i64) .s))) && (decide (C.ty f f2.type = some .s) && (decide (C.ty f f3.type = some .s) &&
      (decide (C.elem f4.type = some C.ex) && (decide (C.size f0.type = some 1) && (decide (C.size f1.type = some 3) && (decide (C.size f2.type = some 1) && (decide (C.size f3.type = some 1) && (decide (C.size f4.type = some 1) && (decide (C.size C.ex = some 7) && (lay f0.type && (lay f1.type && (lay f2.type && (lay f3.type && Nat.ble 1 (C.P.bytesOf C.ex))))))))))))))))))))
    | _ => false)
  | _ => false
def Cfg.lay : Nat → TypeId → Bool
  | 0, _ => false
  | f + 1, t =>
    bif Nat.beq t C.ex then layEx C (Cfg.lay f) f else
    match C.P.underlying t with
    | some .bool => true
    | some (.int _) => true
    | some .string => true
    | some (.slice e) => (match C.size e, C.ty f e with | some n, some τ => Nat.beq n τ.n && (Nat.ble 1 (C.P.bytesOf e) && Cfg.lay f e) | _, _ => false)
    | some (.struct fs) => layFs C (Cfg.lay f) f 0 fs.toList
    | _ => false
end

/-- All that is there may be read. -/
def G0 {N : List Nat} (W : World) : Gh N := ⟨[], fun _ _ => none, fun b _ => b < W.heap.size⟩
/-- The variables that are named hold ints. -/
def GlOk (N : List Nat) (W : World) : Prop := ∀ b, b ∈ N → ∃ n, cel W b 0 = some (.int .i64 n)

theorem mem_G0 {N : List Nat} (W : World) (hg : GlOk N W) : Mem (G0 (N := N) W) W [] := ⟨rfl, fun id v h => by simp [G0] at h, fun id ob h => by simp at h, fun b o h => ⟨rfl, h⟩, fun b o id h => by simp [G0] at h, fun b hb => by
  obtain ⟨n, hn⟩ := hg b hb
  exact ⟨cel_lt (by rw [hn]; rfl), n, hn⟩⟩

section
variable {C : Cfg} {H : Type} {enc : TypeId × Value → H} {W : World}

theorem weights_mem_all {P : Program} {e : TypeId} : ∀ {ds : List (DataW H)} {d : DataW H} {n : Nat}, d ∈ ds → n ∈ d.weights P e → n ∈ DataW.weightsAll P e ds
  | [], _, _, h, _ => absurd h (by simp)
  | x :: r, d, n, h, hn => by
    simp only [DataW.weightsAll, List.mem_append]
    rcases List.mem_cons.1 h with rfl | h
    · exact .inl hn
    · exact .inr (weights_mem_all h hn)

/-- What cells say of a value of a plain type. -/
def Told (C : Cfg) (W : World) (t : Ty) (x : t.den) (cs : List Value) : Prop := cs.length = t.n ∧ (∀ (k : Nat) (v : V) (val : Value), (t.leaves x)[k]? = some v → cs[k]? = some val → Rel (G0 (N := C.gl) W) W v val) ∧ t.ok x

theorem told_one {t : Ty} {x : t.den} {v : V} {val : Value} (hl : t.leaves x = [v]) (hn : t.n = 1) (hr : Rel (G0 (N := C.gl) W) W v val) (hok : t.ok x) : Told C W t x [val] := by
  refine ⟨by rw [hn]; rfl, fun k u y hu hy => ?_, hok⟩
  rw [hl] at hu
  cases k with
  | zero => simp at hu hy; subst hu; subst hy; exact hr
  | succ k => simp at hu

theorem told_list {e : Ty} {te : TypeId} (hs : C.P.cellsOf te = e.n) (hz : 1 ≤ C.P.bytesOf te) {t : TypeId} (hu : C.P.underlying t = some (.slice te)) {fuel : Nat} {cs : List Value} {D : DataW H × List MemPlace}
    (h : DataW.trod enc C.P W 0 (fun _ => true) true fuel t cs = some D) (hw : ∀ m ∈ D.1.weights C.P t, m ≤ reachBytes)
    (ih : ∀ (m : Nat), m < fuel → ∀ (cs : List Value) (D : DataW H × List MemPlace), DataW.trod enc C.P W 0 (fun _ => true) true m te cs = some D → (∀ k ∈ D.1.weights C.P te, k ≤ reachBytes) → ∃ x : e.den, Told C W e x cs) : ∃ xs : List e.den, Told C W (.l e) xs cs := by
  rcases DataW.trod_slice hu h with ⟨rfl, _⟩ | ⟨a, len, cap, elems, rest, n, hfuel, rfl, rfl, hb, hl, hm, hlen, hel, _, _⟩
  · exact ⟨[], told_one rfl rfl (.lnil e none 0) ⟨by simp, fun x hx => by simp at hx⟩⟩
  have hwl : len ≤ 140737488351232 := by
    have h1 := hw ((elems.length + rest.length) * C.P.bytesOf te) (by simp only [DataW.weights, hu, List.length_map]; exact List.mem_cons_self ..)
    have h2 : len * 1 ≤ (elems.length + rest.length) * C.P.bytesOf te := Nat.mul_le_mul (by omega) hz
    unfold reachBytes at h1
    omega
  have hwe : ∀ y ∈ elems, ∀ k ∈ y.1.weights C.P te, k ≤ reachBytes := by
    intro y hy k hk
    refine hw k ?_
    simp only [DataW.weights, hu]
    refine List.mem_cons_of_mem _ (List.mem_append_left _ ?_)
    exact weights_mem_all (List.mem_map_of_mem hy) hk
  have each : ∀ i, i < len → ∃ x c, Told C W e x c ∧ ∀ j u, c[j]? = some u → W.cell? (a.add (i * e.n + j)) = some u := by
    intro i hi
    have h1 := hel i hi
    rw [List.getElem?_eq_getElem (by omega), hs] at h1
    obtain ⟨c, hc, ht⟩ := Option.bind_eq_some_iff.1 h1
    obtain ⟨x, hx⟩ := ih n (by omega) c _ ht (hwe _ (List.getElem_mem _))
    obtain ⟨_, hn, hcell⟩ := World.cells?_some hc
    refine ⟨x, c, hx, fun j u hu2 => ?_⟩
    have hj : j < c.length := (List.getElem?_eq_some_iff.1 hu2).1
    have := hcell j (by omega)
    rw [Addr.add_add, hu2] at this
    exact this
  obtain ⟨xs, hxl, hx⟩ : ∃ xs : List e.den, xs.length = len ∧ ∀ (i : Nat) (x : e.den), xs[i]? = some x → ∃ c, Told C W e x c ∧ ∀ j u, c[j]? = some u → W.cell? (a.add (i * e.n + j)) = some u := by
    have key : ∀ m, m ≤ len → ∃ xs : List e.den, xs.length = m ∧ ∀ (i : Nat) (x : e.den), xs[i]? = some x → ∃ c, Told C W e x c ∧ ∀ j u, c[j]? = some u → W.cell? (a.add (i * e.n + j)) = some u := by
      intro m
      induction m with
      | zero => exact fun _ => ⟨[], rfl, fun i x h => by simp at h⟩
      | succ m ihm =>
        intro hm2
        obtain ⟨xs, hl2, hx⟩ := ihm (by omega)
        obtain ⟨x, c, h1, h2⟩ := each m (by omega)
        refine ⟨xs ++ [x], by simp [hl2], fun i y hy => ?_⟩
        rcases Nat.lt_or_ge i xs.length with hi | hi
        · rw [List.getElem?_append_left hi] at hy
          exact hx i y hy
        · have hi2 : i = xs.length := by
            have := (List.getElem?_eq_some_iff.1 hy).1
            simp at this
            omega
          subst hi2
          have : x = y := by simpa using hy
          subst this
          rw [hl2]
          exact ⟨c, h1, h2⟩
    exact key len (Nat.le_refl _)
  have hok : (Ty.l e).ok xs := by
    refine ⟨by rw [hxl]; exact hwl, fun x hxm => ?_⟩
    obtain ⟨i, hi, rfl⟩ := List.mem_iff_getElem.1 hxm
    obtain ⟨_, h1, _⟩ := hx i _ (List.getElem?_eq_getElem hi)
    exact h1.2.2
  refine ⟨xs, ?_⟩
  subst hxl
  by_cases h0 : xs.length = 0
  · have : xs = [] := List.eq_nil_of_length_eq_zero h0
    subst this
    exact told_one rfl rfl (.lnil e (some a) cap) hok
  · -- the row's place
    have hsp : a = ⟨a.block, a.off, none⟩ := by
      obtain ⟨c, h1, h2⟩ := hx 0 _ (List.getElem?_eq_getElem (by omega))
      have hc0 : 0 < c.length := by rw [h1.1]; exact Ty.n_pos e
      have h3 := h2 0 _ (List.getElem?_eq_getElem hc0)
      rw [Nat.zero_mul, Nat.zero_add] at h3
      have h4 : a.add 0 = a := by simp [Addr.add]
      rw [h4] at h3
      unfold World.cell? at h3
      split at h3
      · split at h3
        · cases h3
        · rename_i hs
          cases a with
          | mk b o s => cases s with
            | none => rfl
            | some s => simp at hs
      · cases h3
    generalize a.block = bb at hsp
    generalize a.off = oo at hsp
    subst hsp
    refine told_one rfl rfl (.l e xs bb oo cap (fun k => (cel W bb (oo + k)).getD undef) hl (fun j x k v hxj hv => ?_) (fun j x k v hxj hv => ?_)) hok
    · obtain ⟨c, h1, h2⟩ := hx j x hxj
      have hk : k < c.length := by rw [h1.1]; exact leaf_lt hv
      have h3 := h2 k _ (List.getElem?_eq_getElem hk)
      rw [add_at] at h3
      have h3 : cel W bb (oo + (j * e.n + k)) = some c[k] := h3
      exact ⟨cel_lt (by rw [h3]; rfl), by rw [h3]; rfl⟩
    · obtain ⟨c, h1, h2⟩ := hx j x hxj
      have hk : k < c.length := by rw [h1.1]; exact leaf_lt hv
      have h3 := h2 k _ (List.getElem?_eq_getElem hk)
      rw [add_at] at h3
      have h3 : cel W bb (oo + (j * e.n + k)) = some c[k] := h3
      rw [h3]
      exact h1.2.1 k v _ hv (List.getElem?_eq_getElem hk)

theorem told_pair {t1 t2 : Ty} {x : t1.den} {y : t2.den} {cs : List Value} {n : Nat} (hn : t1.n = n) (h1 : Told C W t1 x (cs.take n)) (h2 : Told C W t2 y (cs.drop n)) : Told C W (.p t1 t2) (x, y) cs := by
  subst hn
  obtain ⟨a1, a2, a3⟩ := h1
  obtain ⟨b1, b2, b3⟩ := h2
  rw [List.length_take] at a1
  rw [List.length_drop] at b1
  have hpos := Ty.n_pos t2
  refine ⟨by simp only [Ty.n]; omega, fun k v val hv hval => ?_, a3, b3⟩
  simp only [Ty.leaves] at hv
  by_cases hk : k < t1.n
  · rw [List.getElem?_append_left (by rw [Ty.leaves_length]; exact hk)] at hv
    exact a2 k v val hv (by rw [List.getElem?_take_of_lt hk]; exact hval)
  · rw [List.getElem?_append_right (by rw [Ty.leaves_length]; omega), Ty.leaves_length] at hv
    exact b2 _ v val hv (by rw [List.getElem?_drop, show t1.n + (k - t1.n) = k by omega]; exact hval)

theorem size_cells {t : TypeId} {n : Nat} (h : C.size t = some n) : C.P.cellsOf t = n := by
  unfold Cfg.size at h
  unfold Program.cellsOf
  rw [h]
  rfl

/-- The fields from a place on. -/
theorem told_fields {f : Nat} {lay : TypeId → Bool} {cs : List Value} : ∀ (fs : List Field) (off : Nat) (τs : List Ty) (τ : Ty), layFs C lay f off fs = true → seqO (fs.map fun x => C.ty f x.type) = some τs → pairs τs = some τ →
    (∀ x, x ∈ fs → ∀ τ', C.ty f x.type = some τ' → lay x.type = true → C.P.cellsOf x.type = τ'.n → ∃ y : τ'.den, Told C W τ' y ((cs.drop x.offset).take (C.P.cellsOf x.type))) → cs.length = off + τ.n → ∃ y : τ.den, Told C W τ y (cs.drop off)
  | [], off, τs, τ, hl, hs, hp, h, hc => by simp [seqO] at hs; subst hs; simp [pairs] at hp
  | x :: r, off, τs, τ, hl, hs, hp, h, hc => by
    simp only [layFs, Bool.and_eq_true] at hl
    obtain ⟨hoff, hl⟩ := hl
    have hoff := Nat.eq_of_beq_eq_true hoff
    split at hl
    · rename_i m τx hm hτx
      simp only [Bool.and_eq_true] at hl
      obtain ⟨hmn, hlx, hlr⟩ := hl
      have hmn := Nat.eq_of_beq_eq_true hmn
      simp only [List.map_cons, hτx, seqO] at hs
      obtain ⟨τr, hτr, rfl⟩ := Option.map_eq_some_iff.1 hs
      obtain ⟨y, hy⟩ := h x (by simp) τx hτx hlx ((size_cells hm).trans hmn)
      rw [size_cells hm, hoff] at hy
      cases r with
      | nil =>
        simp only [List.map_nil, seqO, Option.some.injEq] at hτr
        subst hτr
        simp only [pairs, Option.some.injEq] at hp
        subst hp
        refine ⟨y, ?_⟩
        rwa [List.take_of_length_le (by rw [List.length_drop]; omega)] at hy
      | cons x' r' =>
        have hne : ∃ τ2, pairs τr = some τ2 ∧ τ = .p τx τ2 := by
          cases τr with
          | nil =>
            exfalso
            simp only [List.map_cons] at hτr
            cases hc' : C.ty f x'.type with
            | none => rw [hc'] at hτr; simp [seqO] at hτr
            | some t' => rw [hc'] at hτr; simp [seqO] at hτr
          | cons t' r'' =>
            simp only [pairs] at hp
            obtain ⟨τ2, h1, h2⟩ := Option.map_eq_some_iff.1 hp
            exact ⟨τ2, h1, h2.symm⟩
        obtain ⟨τ2, hp2, rfl⟩ := hne
        simp only [Ty.n] at hc
        obtain ⟨z, hz⟩ := told_fields (x' :: r') (off + m) τr τ2 hlr hτr hp2 (fun x'' hx'' => h x'' (List.mem_cons_of_mem _ hx'')) (by omega)
        refine ⟨(y, z), told_pair hmn.symm hy ?_⟩
        rw [List.drop_drop]
        exact hz
    · cases hl

theorem told_field {n : Nat} {cs : List Value} {fs : Array Field} {xs : List (DataW H × List MemPlace)} {t : TypeId} (hu : C.P.underlying t = some (.struct fs)) (hlen : xs.length = fs.size) {Dt : DataW H × List MemPlace} (hD : Dt = (DataW.agg (xs.map (·.1)), xs.flatMap (·.2)))
    (hw : ∀ m ∈ Dt.1.weights C.P t, m ≤ reachBytes) (hf : ∀ (i : Nat) (f : Field), fs[i]? = some f → DataW.trod enc C.P W 0 (fun _ => true) true n f.type ((cs.drop f.offset).take (C.P.cellsOf f.type)) = xs[i]?) :
    ∀ x, x ∈ fs.toList → ∃ D, DataW.trod enc C.P W 0 (fun _ => true) true n x.type ((cs.drop x.offset).take (C.P.cellsOf x.type)) = some D ∧ ∀ m ∈ D.1.weights C.P x.type, m ≤ reachBytes := by
  intro fd hfd
  obtain ⟨i, hi, rfl⟩ := List.mem_iff_getElem.1 hfd
  have hi' : i < fs.size := by simpa using hi
  refine ⟨xs[i]'(by omega), ?_, ?_⟩
  · have e : fs[i]? = some fs.toList[i] := by rw [Array.getElem?_eq_getElem hi']; simp
    have h3 := hf i _ e
    rw [List.getElem?_eq_getElem (show i < xs.length by omega)] at h3
    exact h3
  · intro m hm
    refine hw m ?_
    rw [hD]
    simp only [DataW.weights, hu]
    exact DataW.weights_mem_each (j := i) (by rw [List.getElem?_map, List.getElem?_eq_getElem hi]; rfl) (by rw [List.getElem?_map, List.getElem?_eq_getElem (show i < xs.length by omega)]; rfl) m hm

theorem told_ex {f : Nat} {lay : TypeId → Bool} (hl : layEx C lay f = true) {n : Nat} {cs : List Value} {D : DataW H × List MemPlace} {fuel : Nat} (h : DataW.trod enc C.P W 0 (fun _ => true) true fuel C.ex cs = some D) (hw : ∀ m ∈ D.1.weights C.P C.ex, m ≤ reachBytes)
    (ih : ∀ (m : Nat), m < fuel → ∀ (t : TypeId) (τ : Ty), C.ty f t = some τ → lay t = true → C.P.cellsOf t = τ.n → ∀ (cs : List Value) (D : DataW H × List MemPlace), DataW.trod enc C.P W 0 (fun _ => true) true m t cs = some D → (∀ k ∈ D.1.weights C.P t, k ≤ reachBytes) → ∃ x : τ.den, Told C W τ x cs)
    (ihx : ∀ (m : Nat), m < fuel → ∀ (cs : List Value) (D : DataW H × List MemPlace), DataW.trod enc C.P W 0 (fun _ => true) true m C.ex cs = some D → (∀ k ∈ D.1.weights C.P C.ex, k ≤ reachBytes) → ∃ x : Ex, Told C W .ex x cs) : ∃ x : Ex, Told C W .ex x cs := by
  unfold layEx at hl
  split at hl
  · rename_i fs hu
    split at hl
    · rename_i f0 f1 f2 f3 f4 hfs
      simp only [Bool.and_eq_true, decide_eq_true_eq] at hl
      obtain ⟨o0, o1, o2, o3, o4, t0, t1, t2, t3, t4, s0, s1, s2, s3, s4, sx, l0, l1, l2, l3, hz⟩ := hl
      have o0 := Nat.eq_of_beq_eq_true o0
      have o1 := Nat.eq_of_beq_eq_true o1
      have o2 := Nat.eq_of_beq_eq_true o2
      have o3 := Nat.eq_of_beq_eq_true o3
      have o4 := Nat.eq_of_beq_eq_true o4
      have hz := Nat.le_of_ble_eq_true hz
      obtain ⟨xs, m, hfuel, rfl, hlcs, hlen, hf⟩ := DataW.trod_struct hu h
      have hcl : cs.length = 7 := by rw [hlcs]; exact size_cells sx
      have each := told_field hu hlen rfl hw hf
      rw [hfs] at each
      have go : ∀ (fd : Field) (τ : Ty), fd ∈ [f0, f1, f2, f3, f4] → C.ty f fd.type = some τ → lay fd.type = true → C.P.cellsOf fd.type = τ.n → ∃ y : τ.den, Told C W τ y ((cs.drop fd.offset).take (C.P.cellsOf fd.type)) := by
        intro fd τ hm hτ hl hsz
        obtain ⟨D', h1, h2⟩ := each fd hm
        exact ih m (by omega) fd.type τ hτ hl hsz _ D' h1 h2
      obtain ⟨y0, z0⟩ := go f0 _ (by simp) t0 l0 (size_cells s0)
      obtain ⟨y1, z1⟩ := go f1 _ (by simp) t1 l1 (size_cells s1)
      obtain ⟨y2, z2⟩ := go f2 _ (by simp) t2 l2 (size_cells s2)
      obtain ⟨y3, z3⟩ := go f3 _ (by simp) t3 l3 (size_cells s3)
      obtain ⟨D4, h41, h42⟩ := each f4 (by simp)
      obtain ⟨y4, z4⟩ := told_list (e := .ex) (size_cells sx) hz (elem_run t4) h41 h42 (fun k hk => ihx k (by omega))
      rw [size_cells s0, o0] at z0
      rw [size_cells s1, o1] at z1
      rw [size_cells s2, o2] at z2
      rw [size_cells s3, o3] at z3
      rw [size_cells s4, o4] at z4
      refine ⟨Ex.mk y0 y1.1 y1.2.1 y1.2.2 y2 y3 y4, hcl, fun k v val hv hval => ?_, ?_⟩
      · have at_ : ∀ (off len i : Nat), i < len → ((cs.drop off).take len)[i]? = cs[off + i]? := by
          intro off len i hi
          rw [List.getElem?_take_of_lt hi, List.getElem?_drop]
        match k with
        | 0 => simp only [Ty.leaves, List.getElem?_cons_zero, Option.some.injEq] at hv; subst hv; exact z0.2.1 0 _ val rfl (by rw [at_ 0 1 0 (by omega)]; exact hval)
        | 1 => simp only [Ty.leaves, List.getElem?_cons_zero, List.getElem?_cons_succ, Option.some.injEq] at hv; subst hv; exact z1.2.1 0 _ val rfl (by rw [at_ 1 3 0 (by omega)]; exact hval)
        | 2 => simp only [Ty.leaves, List.getElem?_cons_zero, List.getElem?_cons_succ, Option.some.injEq] at hv; subst hv; exact z1.2.1 1 _ val rfl (by rw [at_ 1 3 1 (by omega)]; exact hval)
        | 3 => simp only [Ty.leaves, List.getElem?_cons_zero, List.getElem?_cons_succ, Option.some.injEq] at hv; subst hv; exact z1.2.1 2 _ val rfl (by rw [at_ 1 3 2 (by omega)]; exact hval)
        | 4 => simp only [Ty.leaves, List.getElem?_cons_zero, List.getElem?_cons_succ, Option.some.injEq] at hv; subst hv; exact z2.2.1 0 _ val rfl (by rw [at_ 4 1 0 (by omega)]; exact hval)
        | 5 => simp only [Ty.leaves, List.getElem?_cons_zero, List.getElem?_cons_succ, Option.some.injEq] at hv; subst hv; exact z3.2.1 0 _ val rfl (by rw [at_ 5 1 0 (by omega)]; exact hval)
        | 6 => simp only [Ty.leaves, List.getElem?_cons_zero, List.getElem?_cons_succ, Option.some.injEq] at hv; subst hv; exact z4.2.1 0 _ val rfl (by rw [at_ 6 1 0 (by omega)]; exact hval)
        | k + 7 => simp [Ty.leaves] at hv
      · have k1 := z1.2.2
        have k4 := z4.2.2
        exact ExOk.mk _ _ _ _ _ _ _ z0.2.2 k1.1 k1.2.1 k1.2.2 z2.2.2 z3.2.2 k4.1 k4.2
    · cases hl
  · cases hl

theorem opens : ∀ (m f : Nat) (t : TypeId) (τ : Ty), C.ty f t = some τ → C.lay f t = true → C.P.cellsOf t = τ.n → ∀ (cs : List Value) (D : DataW H × List MemPlace), DataW.trod enc C.P W 0 (fun _ => true) true m t cs = some D → (∀ k ∈ D.1.weights C.P t, k ≤ reachBytes) → ∃ x : τ.den, Told C W τ x cs := by
  intro m
  induction m using Nat.strongRecOn with
  | _ m ih =>
    intro f t τ hτ hl hsz cs D h hw
    cases f with
    | zero => simp [Cfg.ty] at hτ
    | succ f =>
      simp only [Cfg.ty] at hτ
      simp only [Cfg.lay] at hl
      cases hex : Nat.beq t C.ex with
      | true =>
        rw [hex, cond_true] at hτ hl
        have he := Nat.eq_of_beq_eq_true hex
        subst he
        injection hτ with hτ
        subst hτ
        refine told_ex hl (n := 0) h hw (fun k hk t τ h1 h2 h5 cs D h3 h4 => ih k hk f t τ h1 h2 h5 cs D h3 h4) (fun k hk cs D h3 h4 => ih k hk (f + 1) C.ex .ex ?_ ?_ hsz cs D h3 h4)
        · simp only [Cfg.ty, hex, cond_true]
        · simp only [Cfg.lay, hex, cond_true]; exact hl
      | false =>
        rw [hex, cond_false] at hτ hl
        split at hτ
        · rename_i hu
          injection hτ with hτ
          subst hτ
          obtain ⟨b, rfl, _⟩ := DataW.trod_bool hu h
          exact ⟨b, told_one rfl rfl (.b b) trivial⟩
        · rename_i hu
          injection hτ with hτ
          subst hτ
          obtain ⟨n, rfl, _, hwf⟩ := DataW.trod_int hu h
          have hr : 0 ≤ n ∧ n < 256 := by
            simp [Lit.wf, IntKind.min, IntKind.max, IntKind.bits, IntKind.signed] at hwf
            omega
          refine ⟨UInt8.ofNat n.toNat, told_one rfl rfl ?_ trivial⟩
          have h6 : ((UInt8.ofNat n.toNat).toNat : Int) = n := by
            rw [UInt8.toNat_ofNat']
            omega
          rw [h6]
          exact .i _ _ fun _ => hr
        · rename_i k hk hu
          injection hτ with hτ
          subst hτ
          obtain ⟨n, rfl, _, hwf⟩ := DataW.trod_int hu h
          exact ⟨n, told_one rfl rfl (.i _ _ fun e => (hk e).elim) hwf⟩
        · rename_i hu
          injection hτ with hτ
          subst hτ
          obtain ⟨s, rfl, rfl, hs⟩ := DataW.trod_string hu h
          refine ⟨s, told_one rfl rfl (.s s) ?_⟩
          have := hw _ (by simp only [DataW.weights]; exact List.mem_singleton.2 rfl)
          rw [Array.length_toList] at this
          exact this
        · rename_i hu
          rw [hu] at hl
          cases hl
        · rename_i te hu
          obtain ⟨e, he, rfl⟩ := Option.map_eq_some_iff.1 hτ
          rw [hu] at hl
          dsimp only at hl
          split at hl
          · rename_i n τ' hn hτ'
            simp only [Bool.and_eq_true] at hl
            rw [he] at hτ'
            injection hτ' with hτ'
            subst hτ'
            exact told_list (by rw [size_cells hn]; exact Nat.eq_of_beq_eq_true hl.1) (Nat.le_of_ble_eq_true hl.2.1) hu h hw (fun k hk => ih k hk f te e he hl.2.2 (by rw [size_cells hn]; exact Nat.eq_of_beq_eq_true hl.1))
          · cases hl
        · rename_i fs hu
          rw [hu] at hl
          dsimp only at hl
          obtain ⟨xs, n, hfuel, rfl, hlcs, hlen, hf⟩ := DataW.trod_struct hu h
          have each := told_field hu hlen rfl hw hf
          have go : ∀ x, x ∈ fs.toList → ∀ τ', C.ty f x.type = some τ' → C.lay f x.type = true → C.P.cellsOf x.type = τ'.n → ∃ y : τ'.den, Told C W τ' y ((cs.drop x.offset).take (C.P.cellsOf x.type)) := by
            intro x hx τ' h1 h2 h5
            obtain ⟨D', h3, h4⟩ := each x hx
            exact ih n (by omega) f x.type τ' h1 h2 h5 _ D' h3 h4
          have hcs : cs.length = 0 + τ.n := by rw [hlcs, hsz, Nat.zero_add]
          split at hτ
          · rename_i t1 hs
            injection hτ with hτ
            subst hτ
            obtain ⟨y, hy⟩ := told_fields fs.toList 0 [t1] t1 hl hs rfl go hcs
            rw [List.drop_zero] at hy
            exact ⟨y, hy.1, hy.2.1, hy.2.2⟩
          · rename_i τs hne hs
            obtain ⟨y, hy⟩ := told_fields fs.toList 0 τs τ hl hs hτ go hcs
            rw [List.drop_zero] at hy
            exact ⟨y, hy⟩
          · cases hτ
        · cases hτ

/-- What a reading of what was made gives: itself. -/
theorem comp_leaves : ∀ (t : Ty) (x : t.den) (r : List V), t.comp (t.leaves x ++ r) = some (x, r)
  | .b, x, r => rfl
  | .y8, x, r => by
    show (match asI .u8 (.i .u8 ((UInt8.toNat x : Nat) : Int)) with | some y => some (UInt8.ofNat y.toNat, r) | none => none) = _
    simp [asI]
  | .i k, x, r => by simp [Ty.leaves, Ty.comp, asI]
  | .s, x, r => rfl
  | .c, x, r => rfl
  | .l e, x, r => by simp [Ty.leaves, Ty.comp, asL, castL, Ty.same_self]
  | .p t1 t2, x, r => by
    simp only [Ty.leaves, Ty.comp, List.append_assoc]
    rw [comp_leaves t1 x.1]
    dsimp only
    rw [comp_leaves t2 x.2]
  | .w t1, x, r => comp_leaves t1 x r
  | .ex, x, r => by
    cases x
    simp [Ty.leaves, Ty.comp, asI, asS, asL, castL, Ty.same_self, Ex.kind, Ex.vk, Ex.vn, Ex.vs, Ex.var, Ex.fld, Ex.kids]

theorem imm1_leaves (h : List Ob) (t : Ty) (x : t.den) : (t.leaves x).map (imm1 h) = t.leaves x := by
  have : ∀ v, v ∈ t.leaves x → imm1 h v = v := by
    intro v hv
    have := leaves_imm t x v hv
    cases v <;> first | rfl | (simp [V.imm] at this; done)
  calc (t.leaves x).map (imm1 h) = (t.leaves x).map id := List.map_congr_left this
    _ = t.leaves x := by simp

theorem rowsIn_imm (h : List Ob) : ∀ (vs : List V), (∀ v, v ∈ vs → v.imm = true) → rowsIn h vs = []
  | [], _ => rfl
  | v :: r, hv => by
    have h1 := hv v (List.mem_cons_self ..)
    have h2 := rowsIn_imm h r (fun u hu => hv u (List.mem_cons_of_mem _ hu))
    cases v <;> first | exact h2 | (simp [V.imm] at h1; done)

theorem val_cells (t : Ty) (x : t.den) : (t.val x).cells = t.leaves x ∧ isAggV (t.val x) = t.agg := by
  cases ha : t.agg with
  | true => rw [Ty.val_agg ha]; exact ⟨rfl, rfl⟩
  | false =>
    obtain ⟨v, h1, h2⟩ := Ty.val_one ha x
    rw [h2, h1]
    have := leaves_imm t x v (by rw [h1]; exact List.mem_singleton.2 rfl)
    cases v <;> first | exact ⟨rfl, rfl⟩ | (simp [V.imm] at this; done)

/-- The shapes of a law's arguments. -/
def argSh (τs : List Ty) : List Sh := τs.map Sh.t
theorem rd_args : ∀ (τs : List Ty) (x : shsDen (argSh τs)), shsRd [] (argSh τs) (shsMk 0 (argSh τs) x).1 = some (x, [], [])
  | [], x => rfl
  | t :: r, x => by
    have ih := rd_args r x.2
    obtain ⟨h1, h2⟩ := val_cells t x.1
    have hc : t.comp1 ((t.val x.1).cells.map (imm1 [])) = some x.1 := by
      rw [h1, imm1_leaves]
      unfold Ty.comp1
      have := comp_leaves t x.1 []
      rw [List.append_nil] at this
      rw [this]
    have hrow : rowsIn [] (t.val x.1).cells = [] := by rw [h1]; exact rowsIn_imm _ _ (leaves_imm t x.1)
    show shsRd [] (.t t :: argSh r) (t.val x.1 :: (shsMk 0 (argSh r) x.2).1) = _
    simp only [shsRd, hc, h2, decide_true]
    rw [ih]
    simp only [hrow, List.nil_append]
    rfl

theorem args_bare : ∀ (τs : List Ty), (argSh τs).all Sh.bare = true
  | [] => rfl
  | t :: r => args_bare r

/-- A law that is true of its arguments. -/
theorem law_calls {fid : Nat} {τs : List Ty} {F : shsDen (argSh τs) → Option (shsDen [.t .b] × shsDen (shsUpd (argSh τs)))} (hs : Snd C fid ⟨argSh τs, [.t .b], F⟩) {x : shsDen (argSh τs)} {z : shsDen (shsUpd (argSh τs))} (hF : F x = some ((true, ()), z)) (hg : GlOk C.gl W) {vals : List Value}
    (hv : Rels (G0 (N := C.gl) W) W (shsMk 0 (argSh τs) x).1 vals) : Calls C.P fid vals.toArray W fun e W' => e = .returned (.bool true) ∧ RowKit.Below W.heap.size W W' := by
  refine Calls.mono (hs.does x _ hF (G0 W) W [] _ _ _ vals (mem_G0 W hg) hv (rd_args τs x) (.inl (by unfold Spec.plain; rw [Bool.and_eq_true]; exact ⟨rfl, args_bare τs⟩))) ?_
  rintro e W' ⟨v, G', rfl, h1, h2, h5, h3, h4⟩
  have h2 : Rel G' W' (.b true) v := h2
  cases h2
  exact ⟨rfl, h4.rest.1, h4.rest.2.1, h4.rest.2.2, h4.size, fun k hk => h4.block k hk fun _ => rfl⟩

/-- What is known of all arguments. -/
def okAll : (τs : List Ty) → shsDen (argSh τs) → Prop
  | [], _ => True
  | t :: r, x => t.ok x.1 ∧ okAll r x.2

theorem okWide_complex {P : Program} {w : World} {r : Reach} {base : Nat} {t : TypeId} {v : Value} (ht : P.underlying t = some (.complex .f64)) (h : Value.okWide P w r base t v) : ∃ a b, v = .complex .f64 a b := by
  simp only [Value.okWide, ht, Cell.okWide] at h
  cases v <;> simp_all [Cell.ok]
theorem told_val {t : TypeId} {τ : Ty} {f : Nat} (hτ : C.ty f t = some τ) (hag : C.isAgg t = some τ.agg) {v : Value} {base : Nat} (hok : Value.okWide C.P W .any base t v) {x : τ.den} (h : Told C W τ x v.cells.toList) : Rel (G0 (N := C.gl) W) W (τ.val x) v := by
  cases f with
  | zero => simp [Cfg.ty] at hτ
  | succ f =>
    have single : τ.agg = false → v.cells = #[v] → Rel (G0 (N := C.gl) W) W (τ.val x) v := by
      intro ha hc
      obtain ⟨u, h1, h2⟩ := Ty.val_one ha x
      rw [h2]
      exact h.2.1 0 u v (by rw [h1]; rfl) (by rw [hc]; rfl)
    have agg : τ.agg = true → (∃ cs, v = .agg cs) → Rel (G0 (N := C.gl) W) W (τ.val x) v := by
      rintro ha ⟨cs, rfl⟩
      rw [Ty.val_agg ha]
      refine .agg _ cs (by have := h.1; simp [Value.cells] at this; rw [this, Ty.leaves_length]) (fun k c y hc hy => h.2.1 k c y hc ?_)
      simpa [Value.cells] using hy
    unfold Cfg.isAgg at hag
    obtain ⟨d, hd, hda⟩ := Option.map_eq_some_iff.1 hag
    cases ha : τ.agg with
    | true =>
      refine agg ha ?_
      rw [ha] at hda
      unfold Value.okWide at hok
      cases d with
      | struct fs => rw [hd] at hok; obtain ⟨cs, rfl, _⟩ := hok; exact ⟨cs, rfl⟩
      | array n e => rw [hd] at hok; obtain ⟨cs, rfl, _⟩ := hok; exact ⟨cs, rfl⟩
      | _ => simp at hda
    | false =>
      refine single ha ?_
      rw [ha] at hda
      simp only [Cfg.ty] at hτ
      cases hex : Nat.beq t C.ex with
      | true =>
        rw [hex, cond_true] at hτ
        injection hτ with hτ
        subst hτ
        simp [Ty.agg] at ha
      | false =>
        rw [hex, cond_false] at hτ
        split at hτ
        · rename_i hu
          obtain ⟨b, rfl⟩ := WideShapes.okWide_bool hu hok
          rfl
        · rename_i hu
          obtain ⟨n, rfl⟩ := WideShapes.okWide_int hu hok
          rfl
        · rename_i hu
          obtain ⟨n, rfl⟩ := WideShapes.okWide_int hu hok
          rfl
        · rename_i hu
          obtain ⟨s, rfl⟩ := WideShapes.okWide_string hu hok
          rfl
        · rename_i hu
          obtain ⟨a, b, rfl⟩ := okWide_complex hu hok
          rfl
        · rename_i hu
          obtain ⟨a, l, c, rfl⟩ := WideShapes.okWide_slice hu hok
          rfl
        · rename_i hu
          rw [hd] at hu
          injection hu with hu
          subst hu
          simp at hda
        · cases hτ

/-- The types of a law's arguments. -/
def argsLay (C : Cfg) : List TypeId → List Ty → Bool
  | [], [] => true
  | t :: ts, τ :: τs => decide (C.ty 12 t = some τ) && (decide (C.isAgg t = some τ.agg) && (C.lay 12 t && (Nat.beq (C.P.cellsOf t) τ.n && argsLay C ts τs)))
  | _, _ => false

theorem opens_all : ∀ (ts : List TypeId) (τs : List Ty), argsLay C ts τs = true → ∀ {args : List Value} {ds : List (DataW H)} {p : List MemPlace} {base : Nat}, DataW.TrodAll enc C.P W 0 (fun _ => true) true ts args ds p →
    (∀ (j : Nat) t v, ts[j]? = some t → args[j]? = some v → Value.okWide C.P W .any base t v) → (∀ (j : Nat) t d, ts[j]? = some t → ds[j]? = some d → ∀ n ∈ d.weights C.P t, n ≤ reachBytes) →
    ∃ x : shsDen (argSh τs), Rels (G0 (N := C.gl) W) W (shsMk 0 (argSh τs) x).1 args ∧ okAll τs x
  | [], [], hl, args, ds, p, base, ht, hok, hw => by
    obtain ⟨rfl, _, _⟩ := ChangeShapes.trodAll_nil ht
    exact ⟨(), Rels.nil, trivial⟩
  | t :: ts, τ :: τs, hl, args, ds, p, base, ht, hok, hw => by
    simp only [argsLay, Bool.and_eq_true, decide_eq_true_eq] at hl
    obtain ⟨h1, h2, h3, h4, h5⟩ := hl
    obtain ⟨v, vs, d, ds', p1, p2, rfl, rfl, rfl, k1, k2⟩ := ChangeShapes.trodAll_cons ht
    obtain ⟨fuel, hf⟩ := k1
    obtain ⟨x, hx⟩ := opens fuel 12 t τ h1 h3 (Nat.eq_of_beq_eq_true h4) _ _ hf (hw 0 t d rfl rfl)
    obtain ⟨y, hy, hoky⟩ := opens_all ts τs h5 k2 (fun j t' v' hj hv => hok (j + 1) t' v' (by simpa using hj) (by simpa using hv)) (fun j t' d' hj hd => hw (j + 1) t' d' (by simpa using hj) (by simpa using hd))
    exact ⟨(x, y), Rels.cons (told_val h1 h2 (hok 0 t v rfl rfl) hx) hy, hx.2.2, hoky⟩
  | [], _ :: _, hl, args, ds, p, base, ht, hok, hw => by simp [argsLay] at hl
  | _ :: _, [], hl, args, ds, p, base, ht, hok, hw => by simp [argsLay] at hl

theorem sized_each {P : Program} {ts us : List TypeId} {ds gs : List (DataW H)} (h : (DataW.weightsEach P (ts ++ us) (ds ++ gs)).all (· ≤ reachBytes) = true) (hl : ds.length = ts.length) : ∀ (j : Nat) t d, ts[j]? = some t → ds[j]? = some d → ∀ n ∈ d.weights P t, n ≤ reachBytes := by
  intro j t d ht hd n hn
  have h1 := (List.getElem?_eq_some_iff.1 ht).1
  have := List.all_eq_true.1 h _ (DataW.weights_mem_each (j := j) (by rw [List.getElem?_append_left h1]; exact ht) (by rw [List.getElem?_append_left (by omega)]; exact hd) n hn)
  simpa using this

theorem trodAll_length {P : Program} : ∀ (ts : List TypeId) {args : List Value} {ds : List (DataW H)} {p : List MemPlace}, DataW.TrodAll enc P W 0 (fun _ => true) true ts args ds p → ds.length = ts.length ∧ args.length = ts.length
  | [], args, ds, p, ht => by obtain ⟨rfl, rfl, _⟩ := ChangeShapes.trodAll_nil ht; exact ⟨rfl, rfl⟩
  | t :: ts, args, ds, p, ht => by
    obtain ⟨v, vs, d, ds', p1, p2, rfl, rfl, rfl, k1, k2⟩ := ChangeShapes.trodAll_cons ht
    obtain ⟨h1, h2⟩ := trodAll_length ts k2
    exact ⟨by simp [h1], by simp [h2]⟩

/-- The arguments read behind the call as they did. -/
theorem trodAll_stays {P : Program} (hlaid : laidOutB P = true) : ∀ (ts : List TypeId), (ts.all fun t => P.readableRec t && decide (t < P.types.size)) = true → ∀ {args : List Value} {ds : List (DataW H)} {p : List MemPlace} {W' : World}, DataW.TrodAll enc P W 0 (fun _ => true) true ts args ds p → RowKit.Below W.heap.size W W' →
    DataW.TrodAll enc P W' 0 (fun b => decide (b < W.heap.size)) true ts args ds p
  | [], hr, args, ds, p, W', ht, hb => by
    obtain ⟨rfl, rfl, rfl⟩ := ChangeShapes.trodAll_nil ht
    exact ChangeShapes.trodAll_mk0
  | t :: ts, hr, args, ds, p, W', ht, hb => by
    simp only [List.all_cons, Bool.and_eq_true, decide_eq_true_eq] at hr
    obtain ⟨v, vs, d, ds', p1, p2, rfl, rfl, rfl, k1, k2⟩ := ChangeShapes.trodAll_cons ht
    have lt1 : ∀ x ∈ p1, x.block < W.heap.size := by obtain ⟨m, hm⟩ := k1; exact DataW.trod_lt m _ _ _ hm
    exact ⟨p1, p2, RowKit.Below.trod hlaid hr.1.1 hr.1.2 k1 hb lt1, trodAll_stays hlaid ts hr.2 k2 hb, rfl⟩
end
end Go.Pv
