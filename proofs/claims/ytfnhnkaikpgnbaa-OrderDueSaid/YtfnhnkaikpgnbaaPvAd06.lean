/- Layer 06: (*order.Buffer).Advance, by hand, in the engine's words. -/
import Derived.Test.YtfnhnkaikpgnbaaPvLp06
import Derived.Test.YtfnhnkaikpgnbaaPvCn06
namespace Go.Pv.L06
open Go Go.Proofs
set_option linter.all false
set_option linter.constructorNameAsVariable false
set_option linter.unusedSectionVars false
set_option linter.unusedVariables false
set_option linter.unusedSimpArgs false
section
variable {N : List Nat}
/-- More memory, and what there was as it was. -/
theorem mem_more {G : Gh N} {w W : World} {h : List Ob} (hm : Mem G w h) (hs : w.heap.size ≤ W.heap.size) (hh : ∀ b, b < w.heap.size → W.heap[b]? = w.heap[b]?) (hr : Rest w W) : Mem G W h ∧ Subs G w G W ∧ Ext G w G W := by
  have hc : ∀ b o, b < w.heap.size → cel W b o = cel w b o ∧ frz W b o = frz w b o := fun b o hb => cel_of_heap (hh b hb)
  have hsub : Subs G w G W := ⟨fun b o k => ⟨k, (hc b o (hm.I b o k).2).1⟩, fun _ _ k => k⟩
  refine ⟨⟨hm.len, hm.one, fun id ob hi => (hm.obj id ob hi).keep hsub fun b o k => ⟨k, hc b o (hm.ow b o id k).2⟩, fun b o k => ?_, fun b o id k => ?_, gl_sub hsub hm.gl⟩, hsub, ⟨fun _ _ k => k, hs, fun b o hb k => ⟨k, hc b o hb⟩, fun b hb _ => hh b hb, fun _ _ _ k => .inl k, hr⟩⟩
  · have := hm.I b o k; exact ⟨this.1, by omega⟩
  · have := hm.ow b o id k; exact ⟨this.1, by omega⟩

/-- A block that nobody knew of. -/
theorem mem_adopt {G : Gh N} {w : World} {h : List Ob} (hm : Mem G w h) {B0 g : Nat} (hI : ∀ b o, G.I b o → b < B0) (ho : ∀ b o id, G.ow b o = some id → b < B0) (hg : B0 ≤ g) (hgw : g < w.heap.size) {v : Value} {ob : Ob} (hv : v.oneCell' = true)
    (hob : Subs G w (G.push g v) w → Obj (G.push g v) w h.length ob) : Mem (G.push g v) w (h ++ [ob]) ∧ Subs G w (G.push g v) w := by
  have hsub : Subs G w (G.push g v) w := ⟨fun b o k => ⟨k, rfl⟩, fun _ _ k => Gh.push_old k⟩
  refine ⟨⟨by simp [Gh.push, hm.len], fun id u hu => ?_, fun id o' hi => ?_, fun b o k => ?_, fun b o id k => ?_, gl_sub hsub hm.gl⟩, hsub⟩
  · have hu : (G.ρ ++ [v])[id]? = some u := hu
    rcases Nat.lt_or_ge id G.ρ.length with hlt | hge
    · rw [List.getElem?_append_left hlt] at hu; exact hm.one _ _ hu
    · rw [List.getElem?_append_right hge] at hu
      cases hd : id - G.ρ.length with
      | zero => rw [hd] at hu; simp at hu; rw [← hu]; exact hv
      | succ n => rw [hd] at hu; simp at hu
  · rcases Nat.lt_or_ge id h.length with hlt | hge
    · rw [List.getElem?_append_left hlt] at hi
      refine Obj.keep hsub (fun b o k => ⟨?_, rfl, rfl⟩) (hm.obj id o' hi)
      show (if _ then _ else _) = _
      rw [if_neg (by have := ho b o id k; omega)]
      exact k
    · rw [List.getElem?_append_right hge] at hi
      cases hd : id - h.length with
      | zero =>
        rw [hd] at hi
        have : o' = ob := by simpa using hi.symm
        rw [this, show id = h.length by omega]
        exact hob hsub
      | succ n => rw [hd] at hi; simp at hi
  · have := hm.I b o k
    refine ⟨?_, this.2⟩
    show (if _ then _ else _) = _
    rw [if_neg (by have := hI b o k; omega)]
    exact this.1
  · have k : (if b = g then some G.ρ.length else G.ow b o) = some id := k
    split at k
    · injection k with k
      rename_i hb
      exact ⟨by simp; have := hm.len; omega, by omega⟩
    · have := hm.ow b o id k
      exact ⟨by simp; omega, this.2⟩
end

theorem arr44 (a : Array Value) (h : a.size = 44) : a = #[a.getD 0 undef, a.getD 1 undef, a.getD 2 undef, a.getD 3 undef, a.getD 4 undef, a.getD 5 undef, a.getD 6 undef, a.getD 7 undef, a.getD 8 undef, a.getD 9 undef, a.getD 10 undef, a.getD 11 undef, a.getD 12 undef, a.getD 13 undef, a.getD 14 undef, a.getD 15 undef, a.getD 16 undef, a.getD 17 undef, a.getD 18 undef, a.getD 19 undef, a.getD 20 undef, a.getD 21 undef, a.getD 22 undef, a.getD 23 undef, a.getD 24 undef, a.getD 25 undef, a.getD 26 undef, a.getD 27 undef, a.getD 28 undef, a.getD 29 undef, a.getD 30 undef, a.getD 31 undef, a.getD 32 undef, a.getD 33 undef, a.getD 34 undef, a.getD 35 undef, a.getD 36 undef, a.getD 37 undef, a.getD 38 undef, a.getD 39 undef, a.getD 40 undef, a.getD 41 undef, a.getD 42 undef, a.getD 43 undef] := by
  apply Array.ext
  · rw [h]; rfl
  · intro i h1 h2
    have hi : i < 44 := by omega
    have e : a[i] = a.getD i undef := by simp [Array.getD, h1]
    rw [e]
    match i, hi with
    | 0, _ => rfl
    | 1, _ => rfl
    | 2, _ => rfl
    | 3, _ => rfl
    | 4, _ => rfl
    | 5, _ => rfl
    | 6, _ => rfl
    | 7, _ => rfl
    | 8, _ => rfl
    | 9, _ => rfl
    | 10, _ => rfl
    | 11, _ => rfl
    | 12, _ => rfl
    | 13, _ => rfl
    | 14, _ => rfl
    | 15, _ => rfl
    | 16, _ => rfl
    | 17, _ => rfl
    | 18, _ => rfl
    | 19, _ => rfl
    | 20, _ => rfl
    | 21, _ => rfl
    | 22, _ => rfl
    | 23, _ => rfl
    | 24, _ => rfl
    | 25, _ => rfl
    | 26, _ => rfl
    | 27, _ => rfl
    | 28, _ => rfl
    | 29, _ => rfl
    | 30, _ => rfl
    | 31, _ => rfl
    | 32, _ => rfl
    | 33, _ => rfl
    | 34, _ => rfl
    | 35, _ => rfl
    | 36, _ => rfl
    | 37, _ => rfl
    | 38, _ => rfl
    | 39, _ => rfl
    | 40, _ => rfl
    | 41, _ => rfl
    | 42, _ => rfl
    | 43, _ => rfl
    | i + 44, hi => exact absurd hi (by omega)

def dueOf (l : List eT.den) (time : Int) : List eT.den := l.takeWhile fun e => decide (e.1 ≤ time)
abbrev J12 : List Sh := [.ptr [.row eT, .t (.i .i64)], .t (.i .i64)]
abbrev P12 : List Sh := [.t eT.l, .t (.i .i64)]
noncomputable def advF : shsDen J12 → Option (shsDen P12 × shsDen (shsUpd J12)) := fun x =>
  bif decide (x.2.1 < 0) then some (([], 1, ()), x.1, ()) else
  bif decide (1099511627776 < x.2.1) then some (([], 1, ()), x.1, ()) else
  bif decide (x.2.1 < x.1.2.1) then some (([], 61, ()), x.1, ()) else
  bif decide (x.1.1.length * 64 ≤ 140737488355328) then some ((dueOf x.1.1 x.2.1, 0, ()), (x.1.1.drop (dueOf x.1.1 x.2.1).length, x.2.1, ()), ()) else none

noncomputable def k12 : Code := bodyOf Try.f12
abbrev Y12 := shsDen P12 × shsDen (shsUpd J12)
/-- What the tests ahead of the loop come to: an answer, or the state behind. -/
noncomputable def KB0 : PX → St → Option (Y12 ⊕ (V × V × List Ob)) := fun e s => match e with
  | .rt => (finish C0 Try.f12 J12 P12 ((List.range 2).map fun t => look t s.env) s).map .inl
  | .nx => some (.inr (look 0 s.env, look 1 s.env, s.h))
  | _ => none
noncomputable def s0 (l : List eT.den) (t0 time : Int) : St := { env := (List.range (shsMk 0 J12 ((l, t0, ()), time, ())).1.length).zip (shsMk 0 J12 ((l, t0, ()), time, ())).1, h := (shsMk 0 J12 ((l, t0, ()), time, ())).2 }
noncomputable def s1 (l : List eT.den) (t0 time : Int) : St := stOf (pexec C0 Try.f12.ntmps (kpOf 0 J12) [] [] 9 (sqL k12) (s0 l t0 time) (fun p s => some (p, s)))
theorem eqA (l : List eT.den) (t0 time : Int) : pexec C0 Try.f12.ntmps (kpOf 0 J12) [] [] 9 (sqL k12) (s0 l t0 time) (fun p s => some (p, s)) = some (.nx, s1 l t0 time) := by kernel_rfl
theorem eqB (l : List eT.den) (t0 time : Int) : pexec C0 Try.f12.ntmps (kpOf 0 J12) [] [] 20 (sqL (sqR k12)) (s1 l t0 time) KB0 =
    bif decide (time < 0) then (bif decide (time < 0) then some (.inl (([], 1, ()), (l, t0, ()), ())) else (bif decide (time < t0) then some (.inl (([], 61, ()), (l, t0, ()), ())) else some (.inr (.ptr 0 0, .i .i64 time, [.box [.row 1, .i .i64 t0], .row eT l]))))
    else (bif decide (1099511627776 < time) then some (.inl (([], 1, ()), (l, t0, ()), ())) else (bif decide (time < t0) then some (.inl (([], 61, ()), (l, t0, ()), ())) else some (.inr (.ptr 0 0, .i .i64 time, [.box [.row 1, .i .i64 t0], .row eT l])))) := by kernel_rfl
def s5 (l out : List eT.den) (t0 time : Int) : St := { env := [(0, .ptr 0 0), (1, .i .i64 time), (6, .ptr 3 0)], h := [.box [.l eT l, .i .i64 t0], .fro eT l, .row eT out, .box [.row 2]] }

noncomputable def T24 : List (Nat × Spec) := [(24, ⟨J24l, P24l, D24l 0⟩)]
theorem hT24 : ∀ p, p ∈ T24 → Snd C0 p.1 p.2 := hT_cons (cln24l 0) hT_nil
theorem eqE (l out : List eT.den) (t0 time : Int) : pexec C0 Try.f12.ntmps (kpOf 0 J12) T24 [] 20 (sqR (sqR (sqR (sqR k12)))) (s5 l out t0 time) (KRet C0 Try.f12 J12 P12 2) =
    bif inr (out.length : Int) (l.length : Int) l.length then (bif decide ((ext (out.length : Int) (l.length : Int) l).length * 64 ≤ 140737488355328) then some ((ext (out.length : Int) (l.length : Int) l, ()), ()) else none).bind fun (y : (List eT.den × Unit) × Unit) => some ((out, 0, ()), (y.fst.fst, time, ()), ())
    else none := by kernel_rfl

theorem tw_take {α : Type} (p : α → Bool) : ∀ l : List α, l.takeWhile p = l.take (l.takeWhile p).length
  | [] => rfl
  | x :: r => by
    simp only [List.takeWhile_cons]
    split
    · rw [List.length_cons, List.take_succ_cons, ← tw_take p r]
    · rfl
theorem tw_le {α : Type} (p : α → Bool) : ∀ l : List α, (l.takeWhile p).length ≤ l.length
  | [] => Nat.le_refl _
  | x :: r => by
    simp only [List.takeWhile_cons]
    split
    · have := tw_le p r; simp; exact this
    · simp
theorem tw_lt {α : Type} (p : α → Bool) : ∀ (l : List α) (k : Nat) (x : α), k < (l.takeWhile p).length → l[k]? = some x → p x = true
  | [], k, x, h, _ => by simp at h
  | y :: r, k, x, h, hx => by
    simp only [List.takeWhile_cons] at h
    split at h
    · rename_i hp
      cases k with
      | zero => simp at hx; rw [← hx]; exact hp
      | succ k => exact tw_lt p r k x (by simpa using h) (by simpa using hx)
    · simp at h
theorem tw_at {α : Type} (p : α → Bool) : ∀ (l : List α) (x : α), l[(l.takeWhile p).length]? = some x → p x = false
  | [], x, h => by simp at h
  | y :: r, x, h => by
    simp only [List.takeWhile_cons] at h
    split at h
    · simp at h; exact tw_at p r x h
    · rename_i hp
      simp at h
      rw [← h]; simpa using hp

theorem upto_get {α : Type} (f : Nat → α) (m k : Nat) (h : k < m) : (upto f m)[k]? = some (f k) := by simp [upto, h]
theorem flat5_length (l : List E5) : (flat5 l).length = l.length * 5 := by
  induction l with
  | nil => rfl
  | cons x r ih =>
    show (cells5 x ++ flat5 r).length = _
    rw [List.length_append, ih, List.length_cons, Nat.add_mul]
    show 5 + _ = _
    omega
theorem flat5_get : ∀ (l : List E5) (k j : Nat) (x : E5), l[k]? = some x → j < 5 → (flat5 l)[k * 5 + j]? = (cells5 x)[j]?
  | [], k, j, x, h, _ => by simp at h
  | y :: r, 0, j, x, h, hj => by
    have : y = x := by simpa using h
    subst this
    show (cells5 y ++ flat5 r)[0 * 5 + j]? = _
    rw [Nat.zero_mul, Nat.zero_add, List.getElem?_append_left (by show j < 5; exact hj)]
  | y :: r, k + 1, j, x, h, hj => by
    show (cells5 y ++ flat5 r)[(k + 1) * 5 + j]? = _
    rw [List.getElem?_append_right (by show 5 ≤ _; omega), show (k + 1) * 5 + j - (cells5 y).length = k * 5 + j by show _ - 5 = _; omega]
    exact flat5_get r k j x (by simpa using h) hj

/-- An event's cells, told. -/
theorem el_of {G : Gh C0.gl} {w : World} {x : eT.den} {b o : Nat} (h : ∀ (k : Nat) (v : V), (eT.leaves x)[k]? = some v → ∃ val, cel w b (o + k) = some val ∧ Rel G w v val) :
    ∃ e : E5, (∀ j v, (cells5 e)[j]? = some v → w.cell? ⟨b, o + j, none⟩ = some v) ∧ (∀ (k : Nat) (v : V), (eT.leaves x)[k]? = some v → ∃ val, (cells5 e)[k]? = some val ∧ Rel G w v val) ∧ e.1 = x.1 := by
  obtain ⟨x0, x1, x2, x3, x4⟩ := x
  obtain ⟨v0, c0, r0⟩ := h 0 (.i .i64 x0) rfl
  obtain ⟨v1, c1, r1⟩ := h 1 (.i .i64 x1) rfl
  obtain ⟨v2, c2, r2⟩ := h 2 (.i .i64 x2) rfl
  obtain ⟨v3, c3, r3⟩ := h 3 (.s x3) rfl
  obtain ⟨v4, c4, r4⟩ := h 4 (.l _ x4) rfl
  obtain ⟨A, m, cap, e4, _⟩ := list_slice r4
  have e0 : v0 = .int .i64 x0 := by cases r0; rfl
  have e1 : v1 = .int .i64 x1 := by cases r1; rfl
  have e2 : v2 = .int .i64 x2 := by cases r2; rfl
  have e3 : v3 = .string x3 := by cases r3; rfl
  subst e0 e1 e2 e3 e4
  refine ⟨(x0, x1, x2, x3, A, m, cap), fun j v hj => ?_, fun k v hk => ?_, rfl⟩
  · match j, hj with
    | 0, hj => injection hj with hj; subst hj; exact c0
    | 1, hj => injection hj with hj; subst hj; exact c1
    | 2, hj => injection hj with hj; subst hj; exact c2
    | 3, hj => injection hj with hj; subst hj; exact c3
    | 4, hj => injection hj with hj; subst hj; exact c4
    | j + 5, hj => simp [cells5] at hj
  · match k, hk with
    | 0, hk => injection hk with hk; subst hk; exact ⟨_, rfl, r0⟩
    | 1, hk => injection hk with hk; subst hk; exact ⟨_, rfl, r1⟩
    | 2, hk => injection hk with hk; subst hk; exact ⟨_, rfl, r2⟩
    | 3, hk => injection hk with hk; subst hk; exact ⟨_, rfl, r3⟩
    | 4, hk => injection hk with hk; subst hk; exact ⟨_, rfl, r4⟩
    | k + 5, hk =>
      have := (List.getElem?_eq_some_iff.1 hk).1
      rw [Ty.leaves_length, eN] at this
      omega

theorem no_loops {n : Nat} {kp : List Nat} {c : Code} (h : loopsIn c = []) : ∀ body, body ∈ loopsIn c → ∀ k sp, lkey body = some k → find k ([] : List (Nat × LSpec)) = some sp → LSnd C0 n kp body sp := fun b hb => by rw [h] at hb; cases hb
theorem no_scopes {n : Nat} {kp : List Nat} {c : Code} (h : scopesIn c = []) : SOk C0 n kp [] c := fun B hB => by rw [h] at hB; cases hB

/-- Memory behind the loop. -/
theorem behind (G2 : Gh C0.gl) (w2 W : World) (l : List eT.den) (t0 : Int) (el : Nat → E5) (m D : Nat) (v : Value) (hm2 : Mem G2 w2 [.box [.row 1, .i .i64 t0], .row eT l]) (hml : m ≤ l.length)
    (hel : ∀ k, k < l.length → ∀ (j : Nat) (u : V), (eT.leaves (l.getD k eT.dflt))[j]? = some u → ∃ val, (cells5 (el k))[j]? = some val ∧ Rel G2 w2 u val)
    (hD : w2.heap.size + 3 ≤ D) (hv : Boxed W w2.heap.size 34 v) (hrow : W.ownsRow (w2.heap.size + 3) 31 5 v m (flat5 (upto el m))) (hsz : w2.heap.size ≤ W.heap.size) (hold : ∀ b, b < w2.heap.size → W.heap[b]? = w2.heap[b]?) (hrest : Rest w2 W) (hDef : W.heap[D]? = some (.deferred (some []))) :
    ∃ G', Mem G' W [.box [.l eT l, .i .i64 t0], .fro eT l, .row eT (l.take m), .box [.row 2]] ∧ Subs G2 w2 G' W ∧ Ext G2 w2 G' W ∧ G'.ρ[3]? = some (.pointer (some ⟨w2.heap.size, 0, none⟩)) ∧ ∀ o, G'.ow D o = none := by
  obtain ⟨a1, a2, a3⟩ := mem_more hm2 hsz hold hrest
  -- the row is only read from now on
  obtain ⟨f1, f2, f3⟩ := mem_freeze a1 (id := 1) (e := eT) (xs := l) rfl
  have hL2 : G2.ρ.length = 2 := hm2.len
  obtain ⟨GF, hGF⟩ : ∃ GF, GF = G2.freeze 1 := ⟨_, rfl⟩
  rw [← hGF] at f1 f2 f3
  have hρF : GF.ρ = G2.ρ := by rw [hGF]; rfl
  have hIF : ∀ b o, GF.I b o → b < w2.heap.size := fun b o h => by
    rw [hGF] at h
    rcases h with h | h
    · exact (hm2.I b o h).2
    · exact (hm2.ow b o 1 h).2
  have hoF : ∀ b o id, GF.ow b o = some id → b < w2.heap.size := fun b o id h => by
    rw [hGF] at h
    have h : (if G2.ow b o = some 1 then none else G2.ow b o) = some id := h
    split at h
    · cases h
    · exact (hm2.ow b o id h).2
  have s2 : Subs G2 w2 GF W := a2.trans f2
  have e2 : Ext G2 w2 GF W := a3.trans f3
  -- the box holds a list
  have f1' : Mem GF W [.box [.l eT l, .i .i64 t0], .fro eT l] := by
    have hb := f1.obj 0 _ rfl
    have hfr := f1.obj 1 _ rfl
    obtain ⟨bb, bo, h1, h2⟩ := hb
    obtain ⟨vr, h3, h4⟩ := hfr
    have := mem_same f1 (id := 0) (ob := .box [.l eT l, .i .i64 t0]) ⟨bb, bo, h1, fun k u hk => by
      match k, hk with
      | 0, hk =>
        injection hk with hk
        subst hk
        obtain ⟨k1, k2, val, k3, k4⟩ := h2 0 _ rfl
        refine ⟨k1, k2, val, k3, ?_⟩
        cases k4 with
        | row _ _ hr => rw [h3] at hr; injection hr with hr; subst hr; exact h4
      | 1, hk => injection hk with hk; subst hk; exact h2 1 _ rfl
      | k + 2, hk => simp at hk⟩
    exact this
  -- the row that came
  have hlast : ∃ GR, Mem GR W [.box [.l eT l, .i .i64 t0], .fro eT l, .row eT (l.take m)] ∧ Subs GF W GR W ∧ GR.ρ[2]? = some v ∧ GR.ρ.length = 3 ∧ (∀ b o, GR.I b o → b < w2.heap.size) ∧ (∀ b o id, GR.ow b o = some id → b < w2.heap.size ∨ (w2.heap.size + 3 ≤ b ∧ ∃ c t f, W.heap[b]? = some (.cells c t f))) ∧ (∀ b o, b < w2.heap.size → GR.ow b o = GF.ow b o) ∧ (∀ b o, GR.I b o → GF.I b o) := by
    rcases hrow.2 with ⟨rfl, rfl⟩ | ⟨g, cap, cur, rfl, hg, hgc, hmc, _, hcs, htk⟩
    · obtain ⟨m1, m2, _⟩ := mem_push0 f1' (v := .slice none 0 0) (ob := .row eT (l.take 0)) rfl (.inl ⟨by simp [Gh.add0, hρF, hL2], rfl⟩)
      exact ⟨_, m1, m2, by simp [Gh.add0, hρF, hL2], by simp [Gh.add0, hρF, hL2], hIF, fun b o id h => .inl (hoF b o id h), fun _ _ _ => rfl, fun _ _ h => h⟩
    · have hgw : g < W.heap.size := (Array.getElem?_eq_some_iff.1 hgc).1
      have hlt : (l.take m).length = m := by rw [List.length_take]; omega
      obtain ⟨m1, m2⟩ := mem_adopt f1' (B0 := w2.heap.size) hIF hoF (g := g) (by omega) hgw (v := .slice (some ⟨g, 0, none⟩) m cap) (ob := .row eT (l.take m)) rfl (fun hs => by
        refine .inr ⟨g, 0, cap, by show (GF.ρ ++ [_])[2]? = _; simp [hρF, hL2, hlt], by rw [hlt]; exact hmc, fun k hk => ⟨?_, ?_, ?_, .inr fun k => ⟨?_, ?_⟩⟩, fun j x k u hx hu => ?_⟩
        · show (if _ then _ else _) = _
          rw [if_pos rfl, hρF, hL2]; rfl
        · simp [frz, World.frozen?, hgc]
        · have hk' : k < cur.size := by rw [hcs]; exact hk
          simp [cel, World.cell?, hgc, hk']
        · show (if _ then _ else _) = _
          rw [if_pos rfl, hρF, hL2]; rfl
        · simp [frz, World.frozen?, hgc]
        · have hk : k < 5 := leaf_lt hu
          have hj : j < m := by have := elem_lt hx; omega
          have hlj : l[j]? = some x := by rw [List.getElem?_take, if_pos hj] at hx; exact hx
          have hgx : l.getD j eT.dflt = x := by rw [List.getD_eq_getElem?_getD, hlj]; rfl
          obtain ⟨val, q1, q2⟩ := hel j (by omega) k u (by rw [hgx]; exact hu)
          refine ⟨val, ?_, (q2.mono s2).mono hs⟩
          have hc1 := flat5_get (upto el m) j k (el j) (upto_get el m j hj) hk
          rw [q1] at hc1
          rw [← htk] at hc1
          show cel W g (0 + (j * 5 + k)) = _
          rw [List.getElem?_take] at hc1
          split at hc1
          · simp only [cel, World.cell?, hgc, Nat.zero_add]
            simpa using hc1
          · cases hc1)
      refine ⟨_, m1, m2, by show (GF.ρ ++ [_])[2]? = _; simp [hρF, hL2], by show (GF.ρ ++ [_]).length = 3; simp [hρF, hL2], hIF, fun b o id h => ?_, fun b o hb => ?_, fun _ _ h => h⟩
      · have h : (if b = g then some GF.ρ.length else GF.ow b o) = some id := h
        split at h
        · rename_i hbg; subst hbg; exact .inr ⟨hg, _, _, _, hgc⟩
        · exact .inl (hoF b o id h)
      · show (if _ then _ else _) = _
        rw [if_neg (by omega)]
  obtain ⟨GR, r1, r2, r3, r4, r5, r6, r7, r8⟩ := hlast
  have hob : W.heap[w2.heap.size]? = some (.cells #[v] 34 (0, 0)) := hv
  have hobw : w2.heap.size < W.heap.size := (Array.getElem?_eq_some_iff.1 hob).1
  have hs3 : Subs GR W (GR.push w2.heap.size (.pointer (some ⟨w2.heap.size, 0, none⟩))) W := ⟨fun b o k => ⟨k, rfl⟩, fun _ _ k => Gh.push_old k⟩
  have hfresh : ∀ o id, GR.ow w2.heap.size o = some id → False := fun o id h => by rcases r6 _ o id h with h | ⟨h, _⟩ <;> omega
  refine ⟨GR.push w2.heap.size (.pointer (some ⟨w2.heap.size, 0, none⟩)), ⟨by simp [Gh.push, r4], fun id u hu => ?_, fun id o' hi => ?_, fun b o k => ?_, fun b o id k => ?_, gl_sub hs3 r1.gl⟩, (s2.trans r2).trans hs3, ⟨fun b o k => (hs3.I b o (r2.I b o (e2.I b o k)).1).1, hsz, fun b o hb k => ⟨?_, (cel_of_heap (hold b hb)).1, (cel_of_heap (hold b hb)).2⟩, fun b hb _ => hold b hb, fun b o hb k => ?_, hrest⟩, by show (GR.ρ ++ [_])[3]? = _; simp [r4], fun o => ?_⟩
  · have hu : (GR.ρ ++ [_])[id]? = some u := hu
    rcases Nat.lt_or_ge id GR.ρ.length with hlt | hge
    · rw [List.getElem?_append_left hlt] at hu; exact r1.one _ _ hu
    · rw [List.getElem?_append_right hge] at hu
      cases hd : id - GR.ρ.length with
      | zero => rw [hd] at hu; simp at hu; rw [← hu]; rfl
      | succ n => rw [hd] at hu; simp at hu
  · have keepO : ∀ b o, GR.ow b o = some id → (GR.push w2.heap.size (.pointer (some ⟨w2.heap.size, 0, none⟩))).ow b o = some id ∧ cel W b o = cel W b o ∧ frz W b o = frz W b o := fun b o k => ⟨by
      show (if _ then _ else _) = _
      rw [if_neg (fun e => by subst e; exact hfresh o id k)]
      exact k, rfl, rfl⟩
    match id, hi with
    | 0, hi => exact Obj.keep hs3 keepO (r1.obj 0 o' hi)
    | 1, hi => exact Obj.keep hs3 keepO (r1.obj 1 o' hi)
    | 2, hi => exact Obj.keep hs3 keepO (r1.obj 2 o' hi)
    | 3, hi =>
      injection hi with hi
      subst hi
      refine ⟨w2.heap.size, 0, by show (GR.ρ ++ [_])[3]? = _; simp [r4], fun k u hk => ?_⟩
      match k, hk with
      | 0, hk =>
        injection hk with hk
        subst hk
        refine ⟨?_, by simp [frz, World.frozen?, hob], v, by simp [cel, World.cell?, hob], .row 2 _ (hs3.ρ _ _ r3)⟩
        show (if _ then _ else _) = _
        rw [if_pos rfl, r4]
      | k + 1, hk => simp at hk
    | id + 4, hi => simp at hi
  · have := r1.I b o k
    refine ⟨?_, this.2⟩
    show (if _ then _ else _) = _
    rw [if_neg (by have := r5 b o k; omega)]
    exact this.1
  · have k : (if b = w2.heap.size then some GR.ρ.length else GR.ow b o) = some id := k
    split at k
    · rename_i hb
      injection k with k
      exact ⟨by rw [r4] at k; simp; omega, by omega⟩
    · have := r1.ow b o id k
      simp at this
      exact ⟨by simp; omega, this.2⟩
  · show (if _ then _ else _) = _
    rw [if_neg (by omega), r7 b o hb]
    exact (e2.cell b o hb k).1
  · have k : GR.I b o := k
    have hk : GF.I b o := r8 b o k
    exact e2.inew b o hb hk
  · show (if _ then _ else _) = _
    rw [if_neg (by omega)]
    cases h : GR.ow D o with
    | none => rfl
    | some id =>
      rcases r6 D o id h with h | ⟨_, c, t, f, h⟩
      · omega
      · rw [hDef] at h; cases h

set_option maxHeartbeats 1000000 in
theorem adv_rest (l : List eT.den) (t0 time : Int) (hbig : l.length * 64 ≤ 140737488355328) {G G2 : Gh C0.gl} {a a2 : Act} {w w2 : World} {s' : St} (hE : Ext G w G2 w2) (hK : Keep (kpOf 0 J12) a a2) (q : Abs [] Try.f12.ntmps G2 s' a2 w2)
    (h0 : look 0 s'.env = .ptr 0 0) (h1 : look 1 s'.env = .i .i64 time) (hh : s'.h = [.box [.row 1, .i .i64 t0], .row eT l]) :
    (sqR (sqR k12)).wp C0.P (fun e a' w' => ∃ D, Marked w D w' ∧ HPost C0 Try.f12 J12 P12 G a w ((l, t0, ()), time, ()) ((dueOf l time, 0, ()), (l.drop (dueOf l time).length, time, ()), ()) D e a' w') a2 w2 := by
  have hsz : a2.tmps.size = 44 := q.size
  have hmem : Mem G2 w2 [.box [.row 1, .i .i64 t0], .row eT l] := by rw [← hh]; exact q.mem
  obtain ⟨bb, bo, p1, p2⟩ := hmem.obj 0 _ rfl
  have v0 : a2.tmps.getD 0 undef = .pointer (some ⟨bb, bo, none⟩) := by
    have := q.env 0
    rw [h0] at this
    generalize a2.tmps.getD 0 undef = z at this
    cases this with
    | ptr _ _ b o hρ => rw [p1] at hρ; injection hρ with hρ; injection hρ with hρ; injection hρ with hρ; injection hρ with e1 e2; subst e1 e2; rfl
  have v1 : a2.tmps.getD 1 undef = .int .i64 time := by
    have := q.env 1
    rw [h1] at this
    generalize a2.tmps.getD 1 undef = z at this
    cases this
    rfl
  obtain ⟨_, _, val0, c0, rr0⟩ := p2 0 _ rfl
  obtain ⟨ow1, _, val1, c1, rr1⟩ := p2 1 _ rfl
  have hbl : bb < w2.heap.size := (hmem.ow _ _ _ ow1).2
  have hrow : ∃ A0 b off cap, val0 = .slice A0 l.length cap ∧ (0 < l.length → A0 = some ⟨b, off, none⟩) ∧ b < w2.heap.size ∧ ∀ (j : Nat) (x : eT.den) (k : Nat) (v : V), l[j]? = some x → (eT.leaves x)[k]? = some v → ∃ val, cel w2 b (off + (j * 5 + k)) = some val ∧ Rel G2 w2 v val := by
    have hv0 : G2.ρ[1]? = some val0 := by cases rr0 with | row _ _ h => exact h
    rcases hmem.obj 1 _ rfl with ⟨k1, k2⟩ | ⟨b, off, cap, k1, k2, k3, k4⟩
    · rw [hv0] at k1
      injection k1 with k1
      subst k1 k2
      exact ⟨none, bb, 0, 0, rfl, fun h => by simp at h, hbl, fun j x k v hx _ => by simp at hx⟩
    · rw [hv0] at k1
      injection k1 with k1
      subst k1
      by_cases hl : l.length = 0
      · exact ⟨_, bb, 0, cap, rfl, fun h => by omega, hbl, fun j x k v hx _ => by have := elem_lt hx; omega⟩
      · have hk : 0 < cap * eT.n := by rw [eN]; omega
        exact ⟨_, b, off, cap, rfl, fun _ => rfl, (hmem.ow _ _ _ (k3 0 hk).1).2, k4⟩
  obtain ⟨A0, b, off, cap, rfl, hA0, hb, hel0⟩ := hrow
  have hel1 : ∀ k : Nat, ∃ e : E5, k < l.length → (∀ j v, (cells5 e)[j]? = some v → w2.cell? ⟨b, off + k * 5 + j, none⟩ = some v) ∧ (∀ (j : Nat) (u : V), (eT.leaves (l.getD k eT.dflt))[j]? = some u → ∃ val, (cells5 e)[j]? = some val ∧ Rel G2 w2 u val) ∧ e.1 = (l.getD k eT.dflt).1 := fun k => by
    by_cases hk : k < l.length
    · have hx : l[k]? = some (l.getD k eT.dflt) := by rw [List.getD_eq_getElem?_getD, List.getElem?_eq_getElem hk]; rfl
      obtain ⟨e, h1, h2, h3⟩ := el_of (G := G2) (w := w2) (x := l.getD k eT.dflt) (b := b) (o := off + k * 5) (fun j v hv => by
        obtain ⟨val, k1, k2⟩ := hel0 k _ j v hx hv
        exact ⟨val, by rw [Nat.add_assoc]; exact k1, k2⟩)
      exact ⟨e, fun _ => ⟨h1, h2, h3⟩⟩
    · exact ⟨(0, 0, 0, ByteArray.empty, none, 0, 0), fun h => absurd h hk⟩
  obtain ⟨el, hel⟩ := Classical.axiomOfChoice hel1
  have hml : (dueOf l time).length ≤ l.length := tw_le _ l
  have hgd : ∀ k, k < l.length → l[k]? = some (l.getD k eT.dflt) := fun k hk => by rw [List.getD_eq_getElem?_getD, List.getElem?_eq_getElem hk]; rfl
  have hdue : ∀ k, k < (dueOf l time).length → (el k).1 ≤ time := fun k hk => by
    rw [(hel k (by omega)).2.2]
    exact of_decide_eq_true (tw_lt (fun e : eT.den => decide (e.1 ≤ time)) l k _ hk (hgd k (by omega)))
  have hstop : (dueOf l time).length < l.length → time < (el (dueOf l time).length).1 := fun hk => by
    rw [(hel _ hk).2.2]
    have : ¬ ((l.getD (dueOf l time).length eT.dflt).1 ≤ time) := of_decide_eq_false (tw_at (fun e : eT.den => decide (e.1 ≤ time)) l _ (hgd _ hk))
    exact Int.not_le.1 this
  have hcode : sqR (sqR k12) = .seq (sqL (sqR (sqR k12))) (.seq (sqL (sqR (sqR (sqR k12)))) (sqR (sqR (sqR (sqR k12))))) := by kernel_rfl
  have htail : tailC bodyOf12 = some (sqL (sqR (sqR k12)), sqL (sqR (sqR (sqR k12))), sqR (sqR (sqR (sqR k12)))) := by kernel_rfl
  rw [hcode]
  refine (wpIn_wide (n := 3)).1 ?_
  have hdf := q.defers
  obtain ⟨tm, df⟩ := a2
  dsimp only at hdf hsz v0 v1
  subst hdf
  have e44 := arr44 tm hsz
  rw [v0, v1] at e44
  rw [e44]
  refine lead12 (fun i => tm.getD i undef) bb bo b off l.length cap (dueOf l time).length A0 hA0 time el w2 _ hbig hml hdue hstop c0 hbl hb (fun k hk => (hel k hk).1) _ _ _ htail (fun D W v hD hv hrw hKB hKd => ?_)
  have hwl : (wLoop w2 bb bo time).heap.size = w2.heap.size + 3 := by unfold wLoop; simp [World.size_alloc]
  have hold : ∀ b', b' < w2.heap.size → W.heap[b']? = w2.heap[b']? := fun b' hb' => by
    rw [hKB.2.2 b' (by omega) (by omega)]
    unfold wLoop
    rw [alloc_other _ _ _ (by simp [World.size_alloc]; omega), alloc_other _ _ _ (by simp [World.size_alloc]; omega), alloc_other _ _ _ hb']
  have hrest : Rest w2 W := Rest.trans (⟨rfl, rfl, rfl⟩ : Rest w2 (wLoop w2 bb bo time)) hKB.1
  have hszW : w2.heap.size ≤ W.heap.size := by have := hKB.2.1; omega
  obtain ⟨G', m1, m2, m3, m4, m5⟩ := behind G2 w2 W l t0 el _ D v hmem hml (fun k hk => (hel k hk).2.1) hD hv hrw hszW hold hrest hKd
  have hA5 : Abs [{ target := .collected D, args := #[] }] Try.f12.ntmps G' (s5 l (l.take (dueOf l time).length) t0 time) { tmps := #[.pointer (some ⟨bb, bo, none⟩), .int .i64 time, tm.getD 2 undef, tm.getD 3 undef, tm.getD 4 undef, tm.getD 5 undef, .pointer (some ⟨w2.heap.size, 0, none⟩), tm.getD 7 undef, tm.getD 8 undef, tm.getD 9 undef, tm.getD 10 undef, tm.getD 11 undef, tm.getD 12 undef, tm.getD 13 undef, tm.getD 14 undef, tm.getD 15 undef, tm.getD 16 undef, tm.getD 17 undef, tm.getD 18 undef, tm.getD 19 undef, .pointer (some ⟨bb, bo, none⟩), .int .i64 time, .func (.func 33) #[] #[.pointer (some ⟨w2.heap.size + 1, 0, none⟩), .pointer (some ⟨w2.heap.size + 2, 0, none⟩)], tm.getD 23 undef, tm.getD 24 undef, tm.getD 25 undef, tm.getD 26 undef, tm.getD 27 undef, tm.getD 28 undef, tm.getD 29 undef, tm.getD 30 undef, tm.getD 31 undef, tm.getD 32 undef, tm.getD 33 undef, tm.getD 34 undef, tm.getD 35 undef, tm.getD 36 undef, tm.getD 37 undef, tm.getD 38 undef, tm.getD 39 undef, tm.getD 40 undef, tm.getD 41 undef, tm.getD 42 undef, tm.getD 43 undef], defers := [{ target := .collected D, args := #[] }] } W := by
    refine ⟨rfl, rfl, fun t => ?_, m1⟩
    by_cases ht0 : t = 0
    · subst ht0
      exact .ptr 0 0 bb bo (m2.ρ _ _ p1)
    · by_cases ht1 : t = 1
      · subst ht1
        exact .i _ _ (fun h => by cases h)
      · by_cases ht6 : t = 6
        · subst ht6
          exact .ptr 3 0 w2.heap.size 0 m4
        · have : look t (s5 l (l.take (dueOf l time).length) t0 time).env = .u := by
            show look t [(0, V.ptr 0 0), (1, .i .i64 time), (6, .ptr 3 0)] = .u
            rw [look_cons, if_neg (Ne.symm ht0), look_cons, if_neg (Ne.symm ht1), look_cons, if_neg (Ne.symm ht6)]
            rfl
          rw [this]
          exact .u _
  have hy : pexec C0 Try.f12.ntmps (kpOf 0 J12) T24 [] 20 (sqR (sqR (sqR (sqR k12)))) (s5 l (l.take (dueOf l time).length) t0 time) (KRet C0 Try.f12 J12 P12 2) = some ((dueOf l time, 0, ()), (l.drop (dueOf l time).length, time, ()), ()) := by
    rw [eqE]
    have hlt : (l.take (dueOf l time).length).length = (dueOf l time).length := by rw [List.length_take]; omega
    have h1 : inr ((l.take (dueOf l time).length).length : Int) (l.length : Int) l.length = true := by
      unfold inr
      rw [hlt]
      simp
      omega
    have h2 : ext ((l.take (dueOf l time).length).length : Int) (l.length : Int) l = l.drop (dueOf l time).length := by
      unfold ext
      rw [hlt]
      simp
    rw [h1, cond_true, h2, show decide ((l.drop (dueOf l time).length).length * 64 ≤ 140737488355328) = true from by rw [List.length_drop]; simp; omega, cond_true, Option.bind_some]
    have h3 : l.take (dueOf l time).length = dueOf l time := (tw_take _ l).symm
    rw [h3]
  refine wpIn_wide.2 (wp_mono ((pexec_ok (D := [{ target := .collected D, args := #[] }]) hT24 20).1 (sqR (sqR (sqR (sqR k12)))) _ _ _ (no_loops (by kernel_rfl)) (no_scopes (by kernel_rfl)) hy G' _ W hA5) ?_)
  intro e a' w' hp
  refine hpost_of (D := [{ target := .collected D, args := #[] }]) (x := ((l, t0, ()), time, ())) (.inr ⟨D, rfl, hKd, by have := hE.size; omega⟩) (hE.trans m3) (hK.trans fun d hd => ?_) (fun K h => by injection h with h _; injection h with h _; injection h with h; subst h; exact m5) (post_ret hp).2
  have hd0 : d = 0 := by simpa [kpOf, kpG] using hd
  subst hd0
  show _ = tm.getD 0 undef
  rw [v0]
  rfl

theorem advSnd : Snd C0 12 ⟨J12, P12, advF⟩ := by
  refine snd_wp (C := C0) (fn := Try.f12) (c := k12) (by kernel_rfl) (by kernel_rfl) (enter_of (fn := Try.f12) (c := k12) (by kernel_rfl) (by kernel_rfl) (by kernel_rfl)) J12 P12 advF (fun x => Nat.le_of_ble_eq_true (by kernel_rfl)) fun x y hF G a w hA => ?_
  obtain ⟨⟨l, t0, u1⟩, time, u2⟩ := x
  have hc : k12 = .seq (sqL k12) (.seq (sqL (sqR k12)) (sqR (sqR k12))) := by kernel_rfl
  rw [hc]
  refine wp_seq (wp_mono ((pexec_ok (D := []) (T := []) (L := []) hT_nil 9).1 (sqL k12) _ _ _ (no_loops (by kernel_rfl)) (no_scopes (by kernel_rfl)) (eqA l t0 time) G a w hA) ?_)
  rintro e a1 w1 ⟨p, s', G1, he, q1, q2, q3, q4⟩
  injection q3 with q3
  injection q3 with q3 q3'
  subst p
  subst s'
  have early : ∀ (y : Y12) (e : Exit) (a' : Act) (w' : World), Post [] Try.f12.ntmps (kpOf 0 J12) G1 a1 w1 KB0 (.inl y) e a' w' → e = .ret ∧ ∃ D, Marked w D w' ∧ HPost C0 Try.f12 J12 P12 G a w ((l, t0, u1), time, u2) y D e a' w' := by
    rintro y e a' w' ⟨p, s', Gs, he, k1, k2, k3, k4⟩
    cases e with
    | ret =>
      simp only [PX.of, Option.some.injEq] at he
      subst he
      refine ⟨rfl, hpost_of (D := []) (.inl rfl) q2 q4 (by intro K h; cases h) ⟨.rt, s', Gs, rfl, k1, k2, ?_, k4⟩⟩
      simp only [KB0, Option.map_eq_some_iff] at k3
      obtain ⟨z, k3, k5⟩ := k3
      injection k5 with k5
      subst k5
      exact k3
    | normal => simp only [PX.of, Option.some.injEq] at he; subst he; simp [KB0] at k3
    | exit id => simp only [PX.of, Option.some.injEq] at he; subst he; cases k3
    | goto l => simp only [PX.of, Option.some.injEq] at he; subst he; cases k3
    | panic ch => simp [PX.of] at he
    | outgrown => simp [PX.of] at he
  have late : ∀ (e : Exit) (a' : Act) (w' : World), Post [] Try.f12.ntmps (kpOf 0 J12) G1 a1 w1 KB0 (.inr (.ptr 0 0, .i .i64 time, [.box [.row 1, .i .i64 t0], .row eT l])) e a' w' → e = .normal ∧ ∃ s' Gs, Abs [] Try.f12.ntmps Gs s' a' w' ∧ Ext G1 w1 Gs w' ∧ Keep (kpOf 0 J12) a1 a' ∧ look 0 s'.env = .ptr 0 0 ∧ look 1 s'.env = .i .i64 time ∧ s'.h = [.box [.row 1, .i .i64 t0], .row eT l] := by
    rintro e a' w' ⟨p, s', Gs, he, k1, k2, k3, k4⟩
    cases e with
    | normal =>
      simp only [PX.of, Option.some.injEq] at he
      subst he
      simp only [KB0, Option.some.injEq, Sum.inr.injEq, Prod.mk.injEq] at k3
      exact ⟨rfl, s', Gs, k1, k2, k4, k3.1, k3.2.1, k3.2.2⟩
    | ret => simp only [PX.of, Option.some.injEq] at he; subst he; simp [KB0] at k3
    | exit id => simp only [PX.of, Option.some.injEq] at he; subst he; cases k3
    | goto l => simp only [PX.of, Option.some.injEq] at he; subst he; cases k3
    | panic ch => simp [PX.of] at he
    | outgrown => simp [PX.of] at he
  cases e with
  | normal =>
    have run : ∀ r, pexec C0 Try.f12.ntmps (kpOf 0 J12) [] [] 20 (sqL (sqR k12)) (s1 l t0 time) KB0 = some r → (sqL (sqR k12)).wp C0.P (Post [] Try.f12.ntmps (kpOf 0 J12) G1 a1 w1 KB0 r) a1 w1 := fun r hr => (pexec_ok (D := []) (T := []) (L := []) hT_nil 20).1 (sqL (sqR k12)) _ _ _ (no_loops (by kernel_rfl)) (no_scopes (by kernel_rfl)) hr G1 a1 w1 q1
    have goE : ∀ y0, pexec C0 Try.f12.ntmps (kpOf 0 J12) [] [] 20 (sqL (sqR k12)) (s1 l t0 time) KB0 = some (.inl y0) → y0 = y → (Code.seq (sqL (sqR k12)) (sqR (sqR k12))).wp C0.P (fun e a' w' => ∃ D, Marked w D w' ∧ HPost C0 Try.f12 J12 P12 G a w ((l, t0, u1), time, u2) y D e a' w') a1 w1 := fun y0 hr hy => by
      subst hy
      refine wp_seq (wp_mono (run _ hr) ?_)
      intro e a' w' hp
      obtain ⟨rfl, hp⟩ := early _ e a' w' hp
      exact hp
    unfold advF at hF
    dsimp only at hF
    have hB := eqB l t0 time
    cases hc1 : decide (time < 0) with
    | true =>
      rw [hc1, cond_true] at hF
      rw [hc1, cond_true, cond_true] at hB
      exact goE _ hB (by injection hF)
    | false =>
      rw [hc1, cond_false] at hF
      rw [hc1, cond_false] at hB
      cases hc2 : decide (1099511627776 < time) with
      | true =>
        rw [hc2, cond_true] at hF hB
        exact goE _ hB (by injection hF)
      | false =>
        rw [hc2, cond_false] at hF hB
        cases hc3 : decide (time < t0) with
        | true =>
          rw [hc3, cond_true] at hF hB
          exact goE _ hB (by injection hF)
        | false =>
          rw [hc3, cond_false] at hF hB
          cases hc4 : decide (l.length * 64 ≤ 140737488355328) with
          | false => rw [hc4, cond_false] at hF; cases hF
          | true =>
            rw [hc4, cond_true] at hF
            injection hF with hF
            subst hF
            refine wp_seq (wp_mono (run _ hB) ?_)
            intro e a' w' hp
            obtain ⟨rfl, s', Gs, k1, k2, k3, k4, k5, k6⟩ := late e a' w' hp
            exact adv_rest l t0 time (of_decide_eq_true hc4) (q2.trans k2) (q4.trans k3) k1 k4 k5 k6
  | _ => simp only [PX.of, Option.some.injEq] at he <;> cases he
end Go.Pv.L06
