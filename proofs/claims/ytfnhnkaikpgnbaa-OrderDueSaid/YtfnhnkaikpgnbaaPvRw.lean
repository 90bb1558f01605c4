/- The engine: rows of rows of one's own. -/
import Derived.Test.YtfnhnkaikpgnbaaPv9
namespace Go.Pv
open Go
set_option linter.all false
set_option linter.constructorNameAsVariable false
set_option linter.unusedSectionVars false
set_option linter.unusedVariables false
set_option linter.unusedSimpArgs false
variable {N : List Nat}

section
variable {C : Cfg} {G : Gh N} {w : World} {h : List Ob}

theorem rw_list {id : Nat} {e : Ty} {xss : List (List e.den)} (ho : Obj G w id (.rw e xss none)) : ∃ v, G.ρ[id]? = some v ∧ Rel (G.freeze id) w (.l (.l e) xss) v := by
  obtain ⟨b, o, cap, sub, hρ, hl, hc, hv⟩ := ho
  refine ⟨_, hρ, .l (.l e) xss b o cap (fun k => (cel w b (o + k)).getD undef) hl (fun j x k v hx hv' => ?_) (fun j x k v hx hv' => ?_)⟩
  · have hk : k = 0 := by have := leaf_lt hv'; simp [Ty.n] at this; exact this
    subst hk
    have hin : j < cap := Nat.lt_of_lt_of_le (elem_lt hx) hl
    obtain ⟨p1, _, _, p4⟩ := hc j hin
    obtain ⟨u, hu⟩ := Option.isSome_iff_exists.1 p4
    rw [show j * (Ty.l e).n + 0 = j by simp [Ty.n]]
    exact ⟨.inr p1, by rw [hu]; rfl⟩
  · have hk : k = 0 := by have := leaf_lt hv'; simp [Ty.n] at this; exact this
    subst hk
    rw [show j * (Ty.l e).n + 0 = j by simp [Ty.n]]
    obtain ⟨val, q1, q2⟩ := hv j x hx (by simp)
    have hve : v = .l e x := by simpa [Ty.leaves] using hv'.symm
    subst hve
    rw [q1]
    show Rel (G.freeze id) w (.l e x) val
    rcases q2 with ⟨rfl, rfl⟩ | ⟨b', o', cap', rfl, p2, p3, p4⟩
    · exact .lnil e none 0
    · refine .l e x b' o' cap' (fun k => (cel w b' (o' + k)).getD undef) p2 (fun i y k u hy hu => ?_) (fun i y k u hy hu => ?_)
      · obtain ⟨z, r1, r2⟩ := p4 i y k u hy hu
        have hin : i * e.n + k < cap' * e.n := in_row (Nat.lt_of_lt_of_le (elem_lt hy) p2) (leaf_lt hu)
        exact ⟨.inr (p3 _ hin).1, by rw [r1]; rfl⟩
      · obtain ⟨z, r1, r2⟩ := p4 i y k u hy hu
        rw [r1]
        exact r2.mono (sub_freeze G w id)

theorem mem_freeze_rw (hm : Mem G w h) {id : Nat} {e : Ty} {xss : List (List e.den)} (hi : h[id]? = some (.rw e xss none)) :
    Mem (G.freeze id) w (h.set id (.fro (.l e) xss)) ∧ Subs G w (G.freeze id) w ∧ Ext G w (G.freeze id) w := by
  have hs := sub_freeze G w id
  refine ⟨⟨by rw [List.length_set]; exact hm.len, hm.one, fun i o' hi' => ?_, fun b o k => ?_, fun b o i k => ?_, gl_sub hs hm.gl⟩, hs, ⟨fun _ _ k => .inl k, Nat.le_refl _, fun b o k1 k2 => ⟨?_, rfl, rfl⟩, fun b _ _ => rfl, fun b o _ k => k.elim .inl fun q => .inr (by rw [q]; simp), Rest.refl _⟩⟩
  · by_cases he : i = id
    · subst he
      have hlt : i < h.length := (List.getElem?_eq_some_iff.1 hi).1
      rw [List.getElem?_set_self hlt] at hi'
      injection hi' with hi'
      rw [← hi']
      exact rw_list (hm.obj _ _ hi)
    · rw [List.getElem?_set_ne (Ne.symm he)] at hi'
      refine Obj.keep hs (fun b o k => ⟨?_, rfl, rfl⟩) (hm.obj _ _ hi')
      simp only [Gh.freeze]
      rw [if_neg (by rw [k]; intro h; injection h with h; exact he h)]
      exact k
  · rcases k with k | k
    · have := hm.I b o k
      refine ⟨?_, this.2⟩
      simp only [Gh.freeze]
      rw [if_neg (by rw [this.1]; simp)]
      exact this.1
    · refine ⟨?_, (hm.ow _ _ _ k).2⟩
      simp only [Gh.freeze]
      rw [if_pos k]
  · simp only [Gh.freeze] at k
    rw [List.length_set]
    split at k
    · cases k
    · exact hm.ow _ _ _ k
  · simp only [Gh.freeze]
    rw [if_neg (by rw [k2]; simp)]
    exact k2

theorem frRw_ok : ∀ (us : List V) {G : Gh N} {h : List Ob} (hm : Mem G w h), ∃ G', Mem G' w (frRw h us) ∧ Subs G w G' w ∧ Ext G w G' w
  | [], G, h, hm => ⟨G, hm, .refl _ _, .refl _ _⟩
  | u :: us, G, h, hm => by
    cases u with
    | row id =>
      simp only [frRw, nth_eq]
      split
      · rename_i e xss hi
        obtain ⟨h1, h2, h3⟩ := mem_freeze_rw hm hi
        rw [setn_eq]
        obtain ⟨G2, k1, k2, k3⟩ := frRw_ok us h1
        exact ⟨G2, k1, h2.trans k2, h3.trans k3⟩
      · exact frRw_ok us hm
    | _ => exact frRw_ok us hm

/-! ### an element taken out -/
def Gh.open (G : Gh N) (id m : Nat) (j : Nat) (sub : Nat → Nat → Option Nat) (val : Value) : Gh N :=
  ⟨G.ρ ++ [val], fun b o => if G.ow b o = some id ∧ sub b o = some j then some m else G.ow b o, G.I⟩

theorem mem_open (hm : Mem G w h) {id : Nat} {e : Ty} {xss : List (List e.den)} (hi : h[id]? = some (.rw e xss none)) {i : Int} (hin : inb i xss.length = true) :
    ∃ b o cap val G', G.ρ[id]? = some (.slice (some ⟨b, o, none⟩) xss.length cap) ∧ cel w b (o + i.toNat) = some val ∧ Mem G' w (h.set id (.rw e xss (some i)) ++ [.row e (rd (.l e) xss i)]) ∧ G'.ρ[h.length]? = some val ∧ Subs G w G' w ∧ Ext G w G' w := by
  unfold inb at hin
  simp only [Bool.and_eq_true, decide_eq_true_eq] at hin
  have hlt : i.toNat < xss.length := by omega
  have hidl : id < h.length := (List.getElem?_eq_some_iff.1 hi).1
  have hget : xss[i.toNat]? = some (rd (.l e) xss i) := by
    unfold rd
    rw [List.getD_eq_getElem?_getD, List.getElem?_eq_getElem hlt]
    rfl
  obtain ⟨b, o, cap, sub, hρ, hl, hc, hv⟩ := hm.obj _ _ hi
  obtain ⟨val, q1, q2⟩ := hv _ _ hget (by simp)
  have hone : val.oneCell' = true := by
    rcases q2 with ⟨rfl, _⟩ | ⟨b', o', cap', rfl, _⟩ <;> rfl
  have hs : Subs G w (G.open id h.length i.toNat sub val) w := ⟨fun b o k => ⟨k, rfl⟩, fun i v k => by
    have := (List.getElem?_eq_some_iff.1 k).1
    simp only [Gh.open]
    rw [List.getElem?_append_left this]
    exact k⟩
  have hnew : (G.open id h.length i.toNat sub val).ρ[h.length]? = some val := by simp [Gh.open, ← hm.len]
  have hne : ∀ id', id' < h.length → id' ≠ h.length := fun id' k => by omega
  refine ⟨b, o, cap, val, G.open id h.length i.toNat sub val, hρ, q1, ⟨by simp [Gh.open, hm.len], fun k v hk => ?_, fun k ob hk => ?_, fun b' o' k => ?_, fun b' o' id' k => ?_, gl_sub hs hm.gl⟩, hnew, hs, ⟨fun _ _ k => k, Nat.le_refl _, fun b' o' _ k => ⟨?_, rfl, rfl⟩, fun _ _ _ => rfl, fun _ _ _ k => .inl k, Rest.refl _⟩⟩
  · simp only [Gh.open] at hk
    rcases Nat.lt_or_ge k G.ρ.length with hk' | hk'
    · rw [List.getElem?_append_left hk'] at hk
      exact hm.one k v hk
    · rw [List.getElem?_append_right hk'] at hk
      have : k - G.ρ.length = 0 := by have := (List.getElem?_eq_some_iff.1 hk).1; simp at this; omega
      rw [this] at hk
      simp at hk
      subst hk
      exact hone
  · rcases Nat.lt_or_ge k h.length with hk' | hk'
    · rw [List.getElem?_append_left (by rw [List.length_set]; exact hk')] at hk
      by_cases he : k = id
      · subst he
        rw [List.getElem?_set_self hk'] at hk
        injection hk with hk
        subst hk
        refine ⟨b, o, cap, sub, hs.ρ _ _ hρ, hl, fun a ha => ?_, fun j ys hj hh => ?_⟩
        · obtain ⟨p1, p2, p3, p4⟩ := hc a ha
          refine ⟨?_, p2, p3, p4⟩
          show (if _ then _ else _) = _
          rw [if_neg (by rw [p2]; simp)]
          exact p1
        · have hji : j ≠ i.toNat := fun e => hh (by rw [e]; congr 1; omega)
          obtain ⟨u, r1, r2⟩ := hv j ys hj (by simp)
          refine ⟨u, r1, r2.keep hs fun b1 o1 p q => ⟨?_, q, rfl, rfl⟩⟩
          show (if _ then _ else _) = _
          rw [if_neg (by rw [q]; simp; intro _; exact hji)]
          exact p
      · rw [List.getElem?_set_ne (Ne.symm he)] at hk
        refine Obj.keep hs (fun b1 o1 p => ⟨?_, rfl, rfl⟩) (hm.obj _ _ hk)
        show (if _ then _ else _) = _
        rw [if_neg (by rw [p]; simp; intro q; exact absurd q he)]
        exact p
    · rw [List.getElem?_append_right (by rw [List.length_set]; exact hk')] at hk
      have hk0 : k = h.length := by
        have := (List.getElem?_eq_some_iff.1 hk).1
        simp at this; omega
      subst hk0
      simp at hk
      subst hk
      rcases q2 with ⟨rfl, hnil⟩ | ⟨b', o', cap', rfl, p2, p3, p4⟩
      · exact .inl ⟨hnew, hnil⟩
      · refine .inr ⟨b', o', cap', hnew, p2, fun a ha => ?_, fun j x k v hx hv' => ?_⟩
        · obtain ⟨r1, r2, r3, r4, r5⟩ := p3 a ha
          refine ⟨?_, r3, r4, r5.keep fun _ q => ⟨?_, rfl⟩⟩
          · show (if _ then _ else _) = _
            rw [if_pos ⟨r1, r2⟩]
          · show (if _ then _ else _) = _
            rw [if_pos ⟨q.1, q.2⟩]
        · obtain ⟨u, r1, r2⟩ := p4 j x k v hx hv'
          exact ⟨u, r1, r2.mono hs⟩
  · have := hm.I b' o' k
    refine ⟨?_, this.2⟩
    show (if _ then _ else _) = _
    rw [if_neg (by rw [this.1]; simp)]
    exact this.1
  · have k : (if G.ow b' o' = some id ∧ sub b' o' = some i.toNat then some h.length else G.ow b' o') = some id' := k
    simp only [List.length_append, List.length_set, List.length_singleton]
    split at k
    · rename_i hq
      injection k with k
      subst k
      exact ⟨by omega, (hm.ow _ _ _ hq.1).2⟩
    · have := hm.ow _ _ _ k
      exact ⟨by omega, this.2⟩
  · show (if _ then _ else _) = _
    rw [if_neg (by rw [k]; simp)]
    exact k

theorem load_one {t : TypeId} {b o : Nat} {val : Value} (hg : C.isAgg t = some false) (hc : cel w b o = some val) : (do let r ← loadVar t ⟨b, o, none⟩; pure (.value r) : Sem Next).run C.P w = .ok (.value val) w := by
  have h1' : w.cell? ⟨b, o, none⟩ = some val := hc
  unfold loadVar
  simp only [Sem.run_bind, agg_run hg, Result.andThen_ok, Bool.false_eq_true, if_false, run_load, h1', Sem.run_pure]

/-! ### .. and put back -/
def Gh.close (G : Gh N) (id m : Nat) : Gh N := ⟨G.ρ, fun b o => if G.ow b o = some m then some id else G.ow b o, G.I⟩

theorem mem_close (hm : Mem G w h) {id m : Nat} {e : Ty} {xss : List (List e.den)} {ys : List e.den} {i : Int} (hi : h[id]? = some (.rw e xss (some i))) (hj : h[m]? = some (.row e ys)) (hin : inb i xss.length = true) {vm : Value} (hvm : G.ρ[m]? = some vm)
    {b o len cap : Nat} (hρ' : G.ρ[id]? = some (.slice (some ⟨b, o, none⟩) len cap)) {t : TypeId} (hn : C.size t = some 1) :
    Did G w ((do Instr.storeAt t (.pointer (some ⟨b, o + i.toNat, none⟩)) vm; pure .skip : Sem Next).run C.P w) .u ((h.set id (.rw e (xss.set i.toNat ys) none)).set m .dead) := by
  unfold inb at hin
  simp only [Bool.and_eq_true, decide_eq_true_eq] at hin
  have hlt : i.toNat < xss.length := by omega
  have hidl : id < h.length := (List.getElem?_eq_some_iff.1 hi).1
  have hml : m < h.length := (List.getElem?_eq_some_iff.1 hj).1
  have hne : id ≠ m := fun e => by subst e; rw [hi] at hj; cases hj
  obtain ⟨b0, o0, cap0, sub, hρ, hl, hc, hv⟩ := hm.obj _ _ hi
  rw [hρ'] at hρ
  simp only [Option.some.injEq, Value.slice.injEq, Addr.mk.injEq] at hρ
  obtain ⟨⟨rfl, rfl, _⟩, rfl, rfl⟩ := hρ
  have hone : vm.oneCell' = true := hm.one m vm hvm
  have hcells : vm.cells = #[vm] := by
    cases vm <;> first | rfl | (simp [Value.oneCell'] at hone; done)
  obtain ⟨c1, c2, c3, c4⟩ := hc i.toNat (Nat.lt_of_lt_of_le hlt hl)
  obtain ⟨w', k1, k2, k3, k4, k5⟩ := run_stores C.P [vm] w b (o + i.toNat) 0 (fun k v hk => by
    have : k = 0 := by have := (List.getElem?_eq_some_iff.1 hk).1; simp at this; exact this
    subst this
    simp at hk
    subst hk
    exact ⟨c4, c3, hone⟩)
  have k3' : ∀ b' o', cel w' b' o' = if b' = b ∧ o' = o + i.toNat then some vm else cel w b' o' := fun b' o' => by
    rw [k3]
    by_cases hq : b' = b ∧ o' = o + i.toNat
    · rw [if_pos hq, if_pos ⟨hq.1, by omega, by simp; omega⟩, hq.2]
      simp
    · rw [if_neg hq, if_neg (by rintro ⟨p1, p2, p3⟩; simp at p3; exact hq ⟨p1, by omega⟩)]
  have hkeep : ∀ b' o', G.ow b' o' ≠ some id → cel w' b' o' = cel w b' o' := fun b' o' hne' => by
    rw [k3']
    split
    · rename_i hq
      obtain ⟨rfl, rfl⟩ := hq
      exact absurd c1 hne'
    · rfl
  have hs : Subs G w (G.close id m) w' := ⟨fun b' o' k => ⟨k, hkeep _ _ (by rw [(hm.I _ _ k).1]; simp)⟩, fun _ _ k => k⟩
  have hrun : (do Instr.storeAt t (.pointer (some ⟨b, o + i.toNat, none⟩)) vm; pure .skip : Sem Next).run C.P w = .ok .skip w' := by
    simp only [Sem.run_bind, run_storeAt hn (show vm.cells.size = 1 by rw [hcells]; rfl)]
    rw [hcells]
    have : (storeCells ⟨b, o + i.toNat, none⟩ (#[vm] : Array Value).toList).run C.P w = .ok () w' := k1
    rw [this]
    rfl
  refine ⟨undef, w', G.close id m, .inr ⟨hrun, rfl⟩, .u _, ⟨by rw [List.length_set, List.length_set]; exact hm.len, hm.one, fun k ob hk => ?_, fun b' o' k => ?_, fun b' o' id' k => ?_, gl_sub hs hm.gl⟩, hs, ⟨fun _ _ k => k, by rw [k2.1]; exact Nat.le_refl _, fun b' o' hb' k => ⟨?_, hkeep _ _ (by rw [k]; simp), k4 _ _⟩, fun b' hb' k => k5 b' (fun e1 => by
      subst e1
      rw [k (o + i.toNat)] at c1
      cases c1), fun _ _ _ k => .inl k, k2.2⟩⟩
  · by_cases hkm : k = m
    · subst hkm
      rw [List.getElem?_set_self (by rw [List.length_set]; exact hml)] at hk
      injection hk with hk
      subst hk
      exact ⟨vm, hvm⟩
    · rw [List.getElem?_set_ne (Ne.symm hkm)] at hk
      by_cases hki : k = id
      · have hki' := hki.symm
        subst hki'
        rw [List.getElem?_set_self hidl] at hk
        injection hk with hk
        subst hk
        -- cells of the row that comes back are told apart by their owner
        refine ⟨b, o, cap, fun b' o' => if G.ow b' o' = some m then some i.toNat else sub b' o', by rw [List.length_set]; exact hρ', by rw [List.length_set]; exact hl, fun a ha => ?_, fun j xs hjx _ => ?_⟩
        · obtain ⟨p1, p2, p3, p4⟩ := hc a ha
          have hnm : ¬ G.ow b (o + a) = some m := by rw [p1]; intro h; injection h with h; exact hne h
          refine ⟨?_, ?_, by rw [k4]; exact p3, ?_⟩
          · show (if _ then _ else _) = _
            rw [if_neg hnm]; exact p1
          · show (if _ then _ else _) = _
            rw [if_neg hnm]; exact p2
          · rw [k3']
            split
            · rfl
            · exact p4
        · by_cases hji : j = i.toNat
          · subst hji
            rw [List.getElem?_set_self hlt] at hjx
            injection hjx with hjx
            subst hjx
            refine ⟨vm, by rw [k3', if_pos ⟨rfl, rfl⟩], ?_⟩
            rcases hm.obj _ _ hj with ⟨h1, h2⟩ | ⟨b', o', cap', h1, h2, h3, h4⟩
            · rw [hvm] at h1
              injection h1 with h1
              exact .inl ⟨h1, h2⟩
            · rw [hvm] at h1
              injection h1 with h1
              refine .inr ⟨b', o', cap', h1, h2, fun a ha => ?_, fun i' x k v hx hv' => ?_⟩
              · obtain ⟨p1, p2, p3, p5⟩ := h3 a ha
                have hni : G.ow b' (o' + a) ≠ some id := by rw [p1]; intro h; injection h with h; exact hne h.symm
                refine ⟨?_, ?_, by rw [k4]; exact p2, by rw [hkeep _ _ hni]; exact p3, p5.keep fun _ q => ⟨⟨?_, ?_⟩, k4 _ _⟩⟩
                · show (if _ then _ else _) = _
                  rw [if_pos p1]
                · show (if _ then _ else _) = _
                  rw [if_pos p1]
                · show (if _ then _ else _) = _
                  rw [if_pos q]
                · show (if _ then _ else _) = _
                  rw [if_pos q]
              · obtain ⟨u, r1, r2⟩ := h4 i' x k v hx hv'
                have hin' : i' * e.n + k < cap' * e.n := in_row (Nat.lt_of_lt_of_le (elem_lt hx) h2) (leaf_lt hv')
                have hni : G.ow b' (o' + (i' * e.n + k)) ≠ some id := by rw [(h3 _ hin').1]; intro h; injection h with h; exact hne h.symm
                exact ⟨u, by rw [hkeep _ _ hni]; exact r1, r2.mono hs⟩
          · rw [List.getElem?_set_ne (Ne.symm hji)] at hjx
            obtain ⟨u, r1, r2⟩ := hv j xs hjx (by intro h; injection h with h; omega)
            refine ⟨u, ?_, r2.keep hs fun b1 o1 p q => ⟨?_, ?_, ?_, k4 _ _⟩⟩
            · rw [k3', if_neg (by rintro ⟨_, h⟩; omega)]
              exact r1
            · show (if _ then _ else _) = _
              rw [if_neg (by rw [p]; intro h; injection h with h; exact hne h)]
              exact p
            · show (if _ then _ else _) = _
              rw [if_neg (by rw [p]; intro h; injection h with h; exact hne h)]
              exact q
            · rw [k3', if_neg]
              rintro ⟨rfl, rfl⟩
              rw [c2] at q
              cases q
      · rw [List.getElem?_set_ne (Ne.symm hki)] at hk
        refine Obj.keep hs (fun b1 o1 p => ⟨?_, hkeep _ _ (by rw [p]; intro h; injection h with h; exact hki h), k4 _ _⟩) (hm.obj _ _ hk)
        show (if _ then _ else _) = _
        rw [if_neg (by rw [p]; intro h; injection h with h; exact hkm h)]
        exact p
  · have := hm.I b' o' k
    refine ⟨?_, by rw [k2.1]; exact this.2⟩
    show (if _ then _ else _) = _
    rw [if_neg (by rw [this.1]; simp)]
    exact this.1
  · have k : (if G.ow b' o' = some m then some id else G.ow b' o') = some id' := k
    rw [List.length_set, List.length_set, k2.1]
    split at k
    · rename_i hq
      injection k with k
      subst k
      exact ⟨hidl, (hm.ow _ _ _ hq).2⟩
    · exact hm.ow _ _ _ k
  · show (if _ then _ else _) = _
    rw [if_neg (by rw [k]; simp)]
    exact k

theorem zero_nil {te : TypeId} (hz : C.zero te = some [.nil]) : ∃ (i : TypeInfo) (zv : Value), C.P.info? te = some i ∧ i.zero = some zv ∧ zv.cells = #[.slice none 0 0] := by
  unfold Cfg.zero at hz
  obtain ⟨zv, hzv, hz⟩ := Option.map_eq_some_iff.1 hz
  obtain ⟨i, hi, hzi⟩ := Option.bind_eq_some_iff.1 hzv
  refine ⟨i, zv, hi, hzi, ?_⟩
  have hl : zv.cells.toList.length = 1 := by have := congrArg List.length hz; simpa using this
  match hc : zv.cells.toList, hl with
  | [c], _ =>
    rw [hc] at hz
    have h1 : ofv1 c = .nil := by simpa using hz
    have h2 : c = .slice none 0 0 := by
      unfold ofv1 at h1
      split at h1 <;> first | rfl | (cases h1; done) | (split at h1 <;> cases h1; done)
    subst h2
    exact Array.toList_inj.1 hc
theorem makeRw_ok (hm : Mem G w h) (t : TypeId) {l c : V} {vl vc : Value} (hl : Rel G w l vl) (hc : Rel G w c vc) :
    OutOk G w ((do let r ← Instr.makeSlice t vl vc; pure (.value r) : Sem Next).run C.P w) (makeRwV C h t l c) := by
  unfold makeRwV
  split
  · rename_i te kl n kc m hte
    split
    · rename_i e by_ he hz hby
      intro hb
      simp only [Bool.and_eq_true, decide_eq_true_eq] at hb
      obtain ⟨h0, h1, h2, h3⟩ := hb
      cases hl; cases hc
      obtain ⟨i, zv, hi, hzi, hcz⟩ := zero_nil (C := C) hz
      have hby' : i.bytes = by_ := by
        unfold Cfg.bytes at hby
        rw [hi] at hby
        simpa using hby
      have hsz : i.size = 1 := by
        have := tyOf_size he
        unfold Cfg.size at this
        rw [hi] at this
        simpa [Ty.n] using this
      have hrun := run_make (P := C.P) w t te i zv (elem_run hte) hi hzi kl kc n m h0 h1 (by rw [hby', Int.mul_comm]; omega) (by omega)
      rw [hsz, Nat.mul_one] at hrun
      have hcell : ∀ k, k < m.toNat → (madeCells zv.cells m.toNat)[k]? = some (.slice none 0 0) := fun k hk => by
        unfold madeCells
        rw [Array.getElem?_map, Array.getElem?_range]
        simp [hk, hcz, Nat.mod_one]
      have hob : Obj (G.push w.heap.size (.slice (some ⟨w.heap.size, 0, none⟩) n.toNat m.toNat)) (w.alloc (.cells (madeCells zv.cells m.toNat) te)) h.length (.rw e (List.replicate n.toNat []) none) := by
        refine ⟨w.heap.size, 0, m.toNat, fun _ _ => none, by rw [List.length_replicate, ← hm.len]; exact Gh.push_new, by rw [List.length_replicate]; omega, fun k hk => ⟨by simp [Gh.push, hm.len], rfl, by rw [Nat.zero_add]; exact frz_alloc_new w _ te k, by rw [Nat.zero_add, cel_alloc_new, hcell k hk]; rfl⟩, fun j xs hj _ => ?_⟩
        have hjl : j < n.toNat := by have := elem_lt hj; rwa [List.length_replicate] at this
        have hx : xs = [] := (List.mem_replicate.1 (List.mem_of_getElem? hj)).2
        refine ⟨.slice none 0 0, by rw [Nat.zero_add, cel_alloc_new, hcell j (by omega)], .inl ⟨rfl, hx⟩⟩
      obtain ⟨m1, m2, m3⟩ := mem_push hm rfl (World.size_alloc w _) ⟨rfl, rfl, rfl⟩ (fun b o k => ⟨cel_alloc_old w _ b o k, frz_alloc_old w _ b o k⟩) (fun b k => heap_alloc_old w _ b k) hob
      refine ⟨.slice (some ⟨w.heap.size, 0, none⟩) n.toNat m.toNat, _, _, .inl (by simp only [Sem.run_bind, hrun, Result.andThen_ok, Sem.run_pure]), .row _ _ (by rw [← hm.len]; exact Gh.push_new), m1, m2, m3⟩
    · trivial
  · trivial

/-- A row's end, and nothing of what is ahead of it. -/
theorem cut_ok (hm : Mem G w h) (t : TypeId) {te : TypeId} {id : Nat} {e : Ty} {xs : List e.den} (hi : h[id]? = some (.row e xs)) (hte : C.elem t = some te) (hτ : C.tyOf te = some e) {vx : Value} (hx : G.ρ[id]? = some vx) {k : IntKind} {l : Int} (hin : inr l xs.length xs.length = true) :
    Did G w ((do let r ← Instr.sliceAt t vx (some (.int k l)) none none; pure (.value r) : Sem Next).run C.P w) (.row h.length) (h.set id .dead ++ [.row e (xs.drop l.toNat)]) := by
  unfold inr at hin
  simp only [Bool.and_eq_true, decide_eq_true_eq] at hin
  obtain ⟨h0, h1, _⟩ := hin
  have hidl : id < h.length := (List.getElem?_eq_some_iff.1 hi).1
  have hO := hm.obj _ _ hi
  obtain ⟨base, cap, hvx, hcap⟩ : ∃ base cap, vx = .slice base xs.length cap ∧ xs.length ≤ cap := by
    rcases hO with ⟨h2, h3⟩ | ⟨b, o, cap, h2, h3⟩
    · rw [hx] at h2
      injection h2 with h2
      exact ⟨none, 0, by rw [h2, h3]; rfl, by rw [h3]; exact Nat.le_refl _⟩
    · rw [hx] at h2
      injection h2 with h2
      exact ⟨_, cap, h2, h3.1⟩
  have hb := run_bounds (C := C) (w := w) (len := xs.length) (cap := cap) (some (.int k l)) none l xs.length (.inr ⟨k, rfl⟩) (.inl ⟨rfl, rfl⟩) h0 h1 (by omega) true
  have hrun : (do let r ← Instr.sliceAt t (.slice base xs.length cap) (some (.int k l)) none none; pure (.value r) : Sem Next).run C.P w = .ok (.value (.slice (if cap = l.toNat then base else base.map (·.add (l.toNat * e.n))) (xs.length - l.toNat) (cap - l.toNat))) w := by
    unfold Instr.sliceAt
    simp only [Sem.run_bind, run_underlying (elem_run hte), Result.andThen_ok, Instr.slice, hb, size_run (tyOf_size hτ), Sem.run_pure, Int.toNat_natCast]
  generalize hval : Value.slice (if cap = l.toNat then base else base.map (·.add (l.toNat * e.n))) (xs.length - l.toNat) (cap - l.toNat) = val at hrun
  have hs : Subs G w ⟨G.ρ ++ [val], fun b o => if G.ow b o = some id then some h.length else G.ow b o, G.I⟩ w := ⟨fun b o k => ⟨k, rfl⟩, fun i v k => by
    have := (List.getElem?_eq_some_iff.1 k).1
    show (G.ρ ++ [val])[i]? = _
    rw [List.getElem?_append_left this]
    exact k⟩
  have hnew : (G.ρ ++ [val])[h.length]? = some val := by simp [← hm.len]
  have hdl : (xs.drop l.toNat).length = xs.length - l.toNat := List.length_drop
  refine ⟨val, w, _, .inl (by rw [hvx]; exact hrun), .row _ _ hnew, ⟨by simp [hm.len], fun k v hk => ?_, fun k ob hk => ?_, fun b' o' k => ?_, fun b' o' id' k => ?_, gl_sub hs hm.gl⟩, hs, ⟨fun _ _ k => k, Nat.le_refl _, fun b' o' _ k => ⟨?_, rfl, rfl⟩, fun _ _ _ => rfl, fun _ _ _ k => .inl k, Rest.refl _⟩⟩
  · rcases Nat.lt_or_ge k G.ρ.length with hk' | hk'
    · rw [List.getElem?_append_left hk'] at hk
      exact hm.one k v hk
    · rw [List.getElem?_append_right hk'] at hk
      have : k - G.ρ.length = 0 := by have := (List.getElem?_eq_some_iff.1 hk).1; simp at this; omega
      rw [this] at hk
      simp at hk
      subst hk
      rw [← hval]
      rfl
  · rcases Nat.lt_or_ge k h.length with hk' | hk'
    · rw [List.getElem?_append_left (by rw [List.length_set]; exact hk')] at hk
      by_cases he : k = id
      · subst he
        rw [List.getElem?_set_self hk'] at hk
        injection hk with hk
        subst hk
        exact ⟨vx, hs.ρ _ _ hx⟩
      · rw [List.getElem?_set_ne (Ne.symm he)] at hk
        refine Obj.keep hs (fun b1 o1 p => ⟨?_, rfl, rfl⟩) (hm.obj _ _ hk)
        show (if _ then _ else _) = _
        rw [if_neg (by rw [p]; intro q; injection q with q; exact he q)]
        exact p
    · rw [List.getElem?_append_right (by rw [List.length_set]; exact hk')] at hk
      have hk0 : k = h.length := by
        have := (List.getElem?_eq_some_iff.1 hk).1
        simp at this; omega
      subst hk0
      simp at hk
      subst hk
      rcases hO with ⟨h2, h3⟩ | ⟨b, o, cap', h2, p2, p3, p4⟩
      · rw [hx] at h2
        injection h2 with h2
        rw [h2] at hvx
        injection hvx with q1 q2 q3
        refine .inl ⟨?_, by rw [h3, List.drop_nil]⟩
        refine hnew.trans ?_
        rw [← hval, ← q1, ← q3, h3]
        have hl0 : l.toNat = 0 := by rw [h3] at h1; simp at h1; omega
        rw [hl0]
        rfl
      · rw [hx] at h2
        injection h2 with h2
        rw [h2] at hvx
        injection hvx with q1 q2 q3
        subst q3
        by_cases hz : cap' = l.toNat
        · refine .inr ⟨b, o, 0, ?_, by rw [hdl]; omega, fun a ha => by simp at ha, fun j x k v hxj hv' => ?_⟩
          · refine hnew.trans ?_
            rw [← hval, if_pos hz, ← q1, hdl]
            congr 2
            omega
          · have := elem_lt hxj
            rw [hdl] at this
            omega
        · refine .inr ⟨b, o + l.toNat * e.n, cap' - l.toNat, ?_, by rw [hdl]; omega, fun a ha => ?_, fun j x k v hxj hv' => ?_⟩
          · refine hnew.trans ?_
            rw [← hval, if_neg hz, ← q1, Option.map_some, add_at, hdl]
          · have hin' : l.toNat * e.n + a < cap' * e.n := by
              have : (cap' - l.toNat) * e.n + l.toNat * e.n = cap' * e.n := by rw [← Nat.add_mul]; congr 1; omega
              omega
            obtain ⟨r1, r2, r3, r5⟩ := p3 _ hin'
            rw [Nat.add_assoc]
            refine ⟨?_, r2, r3, r5.keep fun _ q => ⟨?_, rfl⟩⟩
            · show (if _ then _ else _) = _
              rw [if_pos r1]
            · show (if _ then _ else _) = _
              rw [if_pos q]
          · rw [List.getElem?_drop] at hxj
            obtain ⟨u, r1, r2⟩ := p4 (l.toNat + j) x k v hxj hv'
            refine ⟨u, ?_, r2.mono hs⟩
            rw [Nat.add_assoc, ← Nat.add_assoc (l.toNat * e.n), ← Nat.add_mul]
            exact r1
  · have := hm.I b' o' k
    refine ⟨?_, this.2⟩
    show (if _ then _ else _) = _
    rw [if_neg (by rw [this.1]; simp)]
    exact this.1
  · have k : (if G.ow b' o' = some id then some h.length else G.ow b' o') = some id' := k
    simp only [List.length_append, List.length_set, List.length_singleton]
    split at k
    · rename_i hq
      injection k with k
      subst k
      exact ⟨by omega, (hm.ow _ _ _ hq).2⟩
    · have := hm.ow _ _ _ k
      exact ⟨by omega, this.2⟩
  · show (if _ then _ else _) = _
    rw [if_neg (by rw [k]; simp)]
    exact k

theorem rwV_ok (hm : Mem G w h) {env : Env} {a : Act} (he : EnvR G w env a.tmps) {gs : List (Nat × Bool)} (hg : Met a.tmps gs) (o : Oper) {out : Out} (hrw : rwV C o.op env h gs = some out) : OutOk G w ((execOp a.eval o).run C.P w) out := by
  have hr : ∀ x, Rel G w (ung gs (opnd env x)) (a.eval x) := fun x => ung_rel hg (opnd_rel he x)
  unfold rwV at hrw
  unfold execOp
  split at hrw
  · rename_i t l c hop
    rw [hop]
    split at hrw
    · injection hrw with hrw
      subst hrw
      exact makeRw_ok hm t (hr l) (hr c)
    · cases hrw
  · rename_i t x i hop
    rw [hop]
    have hx := hr x
    have hi := hr i
    split at hrw
    · rename_i id te ho hxe hte
      rw [hxe] at hx
      split at hrw
      · rename_i e xss hole k n hob hie hsz
        injection hrw with hrw
        subst hrw
        intro hin
        rw [nth_eq] at hob
        rw [hie] at hi
        generalize hvx : a.eval x = vx at hx
        generalize hvi : a.eval i = vi at hi
        cases hi
        obtain ⟨b, oo, cap, sub, hρ, hl, hc, hv⟩ := hm.obj _ _ hob
        cases hx with
        | row _ _ hρ' =>
          rw [hρ] at hρ'
          injection hρ' with hρ'
          subst hρ'
          have hb : 0 ≤ n ∧ n < xss.length := by
            unfold inb at hin
            simpa using hin
          have hrun : (do let r ← Instr.indexAt t (.slice (some ⟨b, oo, none⟩) xss.length cap) (.int k n); pure (.value r) : Sem Next).run C.P w = .ok (.value (.pointer (some ⟨b, oo + n.toNat * 1, none⟩))) w := by
            unfold Instr.indexAt
            simp only [asIntOf, Sem.run_bind, Sem.run_pure, Result.andThen_ok, run_underlying (elem_run hte), hb, and_self, if_true, size_run hsz, add_at]
          refine Did.pure hm (.pel (.l e) id n 0 b oo _ cap hρ) ?_
          show (do let r ← Instr.indexAt t (a.eval x) (a.eval i); pure (.value r) : Sem Next).run C.P w = _
          rw [hvx, hvi, hrun]
          simp [Ty.n]
      · injection hrw with hrw
        subst hrw
        trivial
      · cases hrw
    · cases hrw
  · rename_i t ad hop
    rw [hop]
    have hx := hr ad
    split at hrw
    · rename_i e id i ho hae hn hag
      rw [hae] at hx
      split at hrw
      · rename_i e' xss0 hob
        rw [nth_eq] at hob
        split at hrw
        · rename_i xss hcl
          obtain ⟨hee, hxx⟩ := castL_some hcl
          injection hee with hee
          subst hee
          subst hxx
          injection hrw with hrw
          subst hrw
          intro hin
          generalize hvx : a.eval ad = vx at hx
          obtain ⟨b, oo, cap, val, G', h1, h2, h3, h4, h5, h6⟩ := mem_open hm hob hin
          cases hx with
          | pel _ _ _ _ b' o' len' cap' hρ' =>
            rw [h1] at hρ'
            simp only [Option.some.injEq, Value.slice.injEq, Addr.mk.injEq] at hρ'
            obtain ⟨⟨rfl, rfl, _⟩, _, _⟩ := hρ'
            rw [setn_eq]
            refine ⟨val, w, G', .inl ?_, .row _ _ h4, h3, h5, h6⟩
            show (do let r ← Instr.loadAt t (a.eval ad); pure (.value r) : Sem Next).run C.P w = _
            rw [hvx, show oo + (i.toNat * (Ty.l e').n + 0) = oo + i.toNat by simp [Ty.n]]
            exact load_one hag h2
        · injection hrw with hrw
          subst hrw
          trivial
      · cases hrw
    · cases hrw
  · rename_i t ad v hop
    rw [hop]
    have hx := hr ad
    have hv := hr v
    split at hrw
    · rename_i e id i m ho hae hve hn
      rw [hae] at hx
      rw [hve] at hv
      split at hrw
      · rename_i e1 xss0 k e2 ys0 hob hobm
        rw [nth_eq] at hob hobm
        split at hrw
        · rename_i xss ys hcl hcy
          obtain ⟨hee, hxx⟩ := castL_some hcl
          injection hee with hee
          subst hee
          subst hxx
          obtain ⟨hee2, hyy⟩ := castL_some hcy
          subst hee2
          subst hyy
          injection hrw with hrw
          subst hrw
          intro hin
          rw [Bool.and_eq_true] at hin
          have hik : i = k := of_decide_eq_true hin.1
          subst hik
          generalize hvx : a.eval ad = vx at hx
          generalize hvv : a.eval v = vv at hv
          cases hx with
          | pel _ _ _ _ b' o' len' cap' hρ' =>
            cases hv with
            | row _ _ hρv =>
              rw [setn_eq, setn_eq]
              have := mem_close (C := C) hm hob hobm hin.2 hρv hρ' hn
              show Did G w ((do Instr.storeAt t (a.eval ad) (a.eval v); pure .skip : Sem Next).run C.P w) _ _
              have e0 : ∀ e3 : Ty, o' + (i.toNat * (Ty.l e3).n + 0) = o' + i.toNat := fun e3 => by simp [Ty.n]
              rw [hvx, hvv, e0]
              exact this
        · injection hrw with hrw
          subst hrw
          trivial
      · injection hrw with hrw
        subst hrw
        trivial
      · cases hrw
    · cases hrw
  · rename_i t x lo hop
    rw [hop]
    have hx := hr x
    have hl := hr lo
    split at hrw
    · rename_i id te kl l hmv hxe hte hle
      rw [hxe] at hx
      rw [hle] at hl
      split at hrw
      · rename_i e' xs0 e hob hτ
        rw [nth_eq] at hob
        split at hrw
        · rename_i xs hcl
          obtain ⟨hee, hxx⟩ := castL_some hcl
          subst hee
          subst hxx
          injection hrw with hrw
          subst hrw
          intro hin
          generalize hvx : a.eval x = vx at hx
          generalize hvl : a.eval lo = vl at hl
          cases hx with
          | row _ _ hρ =>
            cases hl
            rw [setn_eq]
            have := cut_ok (C := C) hm t hob hte hτ hρ (k := kl) hin
            show Did G w ((do let r ← Instr.sliceAt t (a.eval x) ((some lo).map a.eval) (Option.map a.eval none) (Option.map a.eval none); pure (.value r) : Sem Next).run C.P w) _ _
            rw [hvx, Option.map_some, hvl]
            exact this
        · cases hrw
      · cases hrw
    · cases hrw
  · cases hrw
end
end Go.Pv
