/- The engine: maps of texts to ints. -/
import Derived.Test.YtfnhnkaikpgnbaaPv8
import Derived.MapKept
namespace Go.Pv
open Go
set_option linter.all false
set_option linter.constructorNameAsVariable false
set_option linter.unusedSectionVars false
set_option linter.unusedVariables false
set_option linter.unusedSimpArgs false
variable {N : List Nat}

section
variable {C : Cfg} {G : Gh N} {w : World} {h : List Ob}

theorem mapT_parts {t : TypeId} (ht : C.mapT t = true) : ∃ k e, C.P.underlying t = some (.map k e) ∧ C.P.underlying k = some .string ∧ (C.P.info? e).bind (·.zero) = some (.int .i64 0) := by
  unfold Cfg.mapT at ht
  split at ht
  · rename_i k e hk
    split at ht
    · rename_i h1 h2 h3
      exact ⟨k, e, hk, h1, h3⟩
    · cases ht
  · cases ht

theorem run_und {t : TypeId} {d : TypeDesc} (h : C.P.underlying t = some d) (w : World) : (underlying t).run C.P w = .ok d w := by
  exact run_underlying h

theorem makeMap_ok (hm : Mem G w h) (t : TypeId) : Did G w ((do let v ← Instr.makeMap t none; pure (.value v) : Sem Next).run C.P w) (.row h.length) (h ++ [.mp []]) := by
  have hob : Obj (G.push w.heap.size (.map (some w.heap.size))) (w.alloc (.map #[] 0)) h.length (.mp []) := by
    refine ⟨w.heap.size, by simp [Gh.push, ← hm.len], fun o => by simp [Gh.push, hm.len], ?_⟩
    simp only [frz, mpo, heap_alloc_new]
    rfl
  obtain ⟨h1, h2, h3⟩ := mem_push hm rfl (World.size_alloc w _) ⟨rfl, rfl, rfl⟩ (fun b o k => ⟨cel_alloc_old w _ b o k, frz_alloc_old w _ b o k⟩) (fun b k => heap_alloc_old w _ b k) hob
  refine ⟨.map (some w.heap.size), w.alloc (.map #[] 0), _, .inl ?_, ?_, h1, h2, h3⟩
  · simp [Instr.makeMap, newObj, Sem.run]
  · exact .row _ _ (by simp [Gh.push, ← hm.len])

theorem obj_map {id : Nat} {es : List (ByteArray × Int)} (ho : Obj G w id (.mp es)) : ∃ b ents clock, G.ρ[id]? = some (.map (some b)) ∧ (∀ o, G.ow b o = some id) ∧ w.heap[b]? = some (.map ents clock) ∧ ents.toList.map (fun e => (e.key, e.val)) = es.map fun p => (.string p.1, .int .i64 p.2) := by
  obtain ⟨b, h1, h2, h3⟩ := ho
  simp only [frz, mpo] at h3
  split at h3
  · rename_i ents clock hb
    injection h3 with h3
    exact ⟨b, ents, clock, h1, h2, hb, h3⟩
  · cases h3

def mpIdx (k : ByteArray) : List (ByteArray × Int) → Nat → Option (Nat × Int)
  | [], _ => none
  | (j, n) :: r, i => bif decide (k = j) then some (i, n) else mpIdx k r (i + 1)

theorem mpIdx_get (k : ByteArray) : ∀ (es : List (ByteArray × Int)) (i : Nat), (mpIdx k es i).map (·.2) = mpGet k es
  | [], i => rfl
  | (j, n) :: r, i => by
    simp only [mpIdx, mpGet]
    cases decide (k = j)
    · exact mpIdx_get k r (i + 1)
    · rfl

theorem findNow_ok (k : ByteArray) : ∀ (es : List (ByteArray × Int)) (ents : List MapEntry) (i : Nat), ents.map (fun e => (e.key, e.val)) = es.map (fun p => (.string p.1, .int .i64 p.2)) →
    Instr.findNow .string (.string k) ents i = some ((mpIdx k es i).map fun p => (p.1, .int .i64 p.2))
  | [], ents, i, h => by
    simp at h
    subst h
    rfl
  | (j, n) :: r, ents, i, h => by
    cases ents with
    | nil => simp at h
    | cons e ents =>
      simp only [List.map_cons, List.cons.injEq, Prod.mk.injEq] at h
      obtain ⟨⟨h1, h2⟩, h3⟩ := h
      obtain ⟨q, hq, hiff⟩ := MapKept.sameNow_of_keys (d := .string) (a := .string k) (b := .string j) (by simp [MapKept.IsKey]) (by simp [MapKept.IsKey])
      simp only [Instr.findNow, h1, hq, mpIdx]
      by_cases hk : k = j
      · subst hk
        rw [hiff.2 rfl]
        simp [h2]
      · have : q = false := by
          cases q with
          | false => rfl
          | true => have := hiff.1 rfl; simp at this; exact absurd this hk
        subst this
        simp only [hk, decide_false, cond_false]
        exact findNow_ok k r ents (i + 1) h3

theorem findKey_ok {kt : TypeId} (hk : C.P.underlying kt = some .string) (k : ByteArray) (es : List (ByteArray × Int)) (ents : List MapEntry) (h : ents.map (fun e => (e.key, e.val)) = es.map (fun p => (.string p.1, .int .i64 p.2))) (w : World) :
    (Instr.findKey kt (.string k) ents).run C.P w = .ok ((mpIdx k es 0).map fun p => (p.1, .int .i64 p.2)) w := by
  unfold Instr.findKey
  simp only [Sem.run_bind, run_und hk, Result.andThen_ok, findNow_ok k es ents 0 h, Sem.run_pure]

theorem checkKey_ok {kt : TypeId} (hk : C.P.underlying kt = some .string) (empty : Bool) (k : ByteArray) (w : World) : (Instr.checkKey empty 10000 kt (.string k)).run C.P w = .ok () w := by
  rw [show (10000 : Nat) = 9999 + 1 from rfl]
  unfold Instr.checkKey
  simp only [Sem.run_bind, run_und hk, Result.andThen_ok, Sem.run_pure]

theorem zeroInt_ok {e : TypeId} (hz : (C.P.info? e).bind (·.zero) = some (.int .i64 0)) (w : World) : (zeroValue e).run C.P w = .ok (.int .i64 0) w := by
  obtain ⟨i, hi, hzi⟩ := Option.bind_eq_some_iff.1 hz
  simp [zeroValue, typeInfo, hi, hzi]

def lookRes (ok : Bool) (r : Option Int) : Value := match ok with
  | true => .tuple #[.int .i64 (match r with | some n => n | none => 0), .bool (match r with | some _ => true | none => false)]
  | false => .int .i64 (match r with | some n => n | none => 0)

theorem lookup_ok (hm : Mem G w h) (t : TypeId) {x k : V} {vx vk : Value} (hx : Rel G w x vx) (hk : Rel G w k vk) (ok : Bool) :
    OutOk G w ((do let v ← Instr.lookup t vx vk ok; pure (.value v) : Sem Next).run C.P w) (lookV C h t x k ok) := by
  unfold lookV
  split
  · rename_i id s
    split
    · rename_i es hi ht
      rw [nth_eq] at hi
      obtain ⟨kt, e, t1, t2, t3⟩ := mapT_parts ht
      obtain ⟨b, ents, clock, b1, b2, b3, b4⟩ := obj_map (hm.obj _ _ hi)
      cases hx with
      | row _ _ hρ =>
      rw [hρ] at b1
      injection b1 with b1
      subst b1
      cases hk with
      | s _ =>
      have hrun : (Instr.lookup t (.map (some b)) (.string s) ok).run C.P w = .ok (lookRes ok (mpGet s es)) w := by
        unfold Instr.lookup
        simp only [Sem.run_bind, run_und t1, Result.andThen_ok, MapKept.run_getObj_map b3, Sem.run_pure, checkKey_ok t2, findKey_ok t2 s es ents.toList b4]
        rw [← mpIdx_get s es 0]
        cases mpIdx s es 0 with
        | none => cases ok <;> simp [zeroInt_ok t3, lookRes]
        | some p => cases ok <;> simp [lookRes]
      refine Did.pure hm (val := lookRes ok (mpGet s es)) ?_ (by simp only [Sem.run_bind, hrun, Result.andThen_ok, Sem.run_pure])
      cases ok with
      | false => exact .i _ _ (by intro e; cases e)
      | true =>
        refine .tup _ _ rfl fun j c v hc hv => ?_
        match j with
        | 0 => simp at hc hv; subst hc; subst hv; exact .i _ _ (by intro e; cases e)
        | 1 => simp at hc hv; subst hc; subst hv; exact .b _
        | j + 2 => simp at hc
    · trivial
  · trivial

theorem idx_lt (k : ByteArray) : ∀ (es : List (ByteArray × Int)) (i j : Nat) (n : Int), mpIdx k es i = some (j, n) → i ≤ j ∧ j < i + es.length ∧ es[j - i]? = some (k, n)
  | [], i, j, n, h => by simp [mpIdx] at h
  | (q, m) :: r, i, j, n, h => by
    simp only [mpIdx] at h
    by_cases hk : k = q
    · subst hk
      simp at h
      obtain ⟨rfl, rfl⟩ := h
      simp
    · simp [hk] at h
      obtain ⟨h1, h2, h3⟩ := idx_lt k r (i + 1) j n h
      refine ⟨by omega, by simp; omega, ?_⟩
      rw [show j - i = (j - (i + 1)) + 1 by omega]
      simpa using h3

theorem put_none (k : ByteArray) (n : Int) : ∀ (es : List (ByteArray × Int)) (i : Nat), mpIdx k es i = none → mpPut k n es = es ++ [(k, n)]
  | [], i, h => rfl
  | (q, m) :: r, i, h => by
    simp only [mpIdx] at h
    by_cases hk : k = q
    · simp [hk] at h
    · simp [hk] at h
      simp [mpPut, hk, put_none k n r (i + 1) h]

theorem put_some (k : ByteArray) (n : Int) : ∀ (es : List (ByteArray × Int)) (i j : Nat) (m : Int), mpIdx k es i = some (j, m) → mpPut k n es = es.set (j - i) (k, n)
  | [], i, j, m, h => by simp [mpIdx] at h
  | (q, m0) :: r, i, j, m, h => by
    have h0 := h
    simp only [mpIdx] at h
    by_cases hk : k = q
    · subst hk
      simp at h
      obtain ⟨rfl, rfl⟩ := h
      simp [mpPut]
    · simp [hk] at h
      have := (idx_lt k r (i + 1) j m h).1
      rw [show j - i = (j - (i + 1)) + 1 by omega]
      simp [mpPut, hk, put_some k n r (i + 1) j m h]

theorem mapUp_ok (hm : Mem G w h) (t : TypeId) {x k v : V} {vx vk vv : Value} (hx : Rel G w x vx) (hk : Rel G w k vk) (hv : Rel G w v vv) :
    OutOk G w ((do Instr.mapUpdate t vx vk vv; pure .skip : Sem Next).run C.P w) (mapUpV C h t x k v) := by
  unfold mapUpV
  split
  · rename_i id s n
    split
    · rename_i es hi ht
      rw [nth_eq] at hi
      obtain ⟨kt, e, t1, t2, t3⟩ := mapT_parts ht
      obtain ⟨b, ents, clock, b1, b2, b3, b4⟩ := obj_map (hm.obj _ _ hi)
      have hρ0 := b1
      cases hx with
      | row _ _ hρ =>
      rw [hρ] at b1
      injection b1 with b1
      subst b1
      cases hk with
      | s _ =>
      cases hv with
      | i _ _ hn =>
      have hblt : b < w.heap.size := (Array.getElem?_eq_some_iff.1 b3).1
      have hrun : ∃ ents' clock', (Instr.mapUpdate t (.map (some b)) (.string s) (.int .i64 n)).run C.P w = .ok () { w with heap := w.heap.setIfInBounds b (.map ents' clock') } ∧ ents'.toList.map (fun e => (e.key, e.val)) = (mpPut s n es).map fun p => (.string p.1, .int .i64 p.2) := by
        unfold Instr.mapUpdate
        simp only [Sem.run_bind, run_und t1, Result.andThen_ok, MapKept.run_getObj_map b3, Sem.run_pure, checkKey_ok t2, findKey_ok t2 s es ents.toList b4]
        cases hx : mpIdx s es 0 with
        | none =>
          refine ⟨_, _, MapKept.run_setObj_map _ b3, ?_⟩
          rw [put_none s n es 0 hx]
          simp [b4]
        | some p =>
          obtain ⟨j, m⟩ := p
          obtain ⟨j1, j2, j3⟩ := idx_lt s es 0 j m hx
          have hkey : (ents[j]?).map (·.key) = some (.string s) := by
            have := congrArg (fun l => l[j]?) b4
            simp only [List.getElem?_map, Nat.sub_zero] at this j3
            rw [j3] at this
            simp only [Option.map_some, Option.map_eq_some_iff, Prod.mk.injEq, Array.getElem?_toList] at this
            obtain ⟨e0, h1, h2, h3⟩ := this
            simp [h1, h2]
          simp only [Option.map_some, hkey, Option.getD_some, Instr.keyThatStays]
          have hsame : Instr.sameBits 10000 (.string s) (.string s) = true := by
            rw [show (10000 : Nat) = 9999 + 1 from rfl]
            simp [Instr.sameBits, MapKept.bytes_beq]
          simp only [hsame, if_true, Sem.run_pure, Result.andThen_ok, Sem.run_bind]
          refine ⟨_, _, MapKept.run_setObj_map _ b3, ?_⟩
          rw [put_some s n es 0 j m hx]
          apply List.ext_getElem?
          intro q
          have hq := congrArg (fun l => l[q]?) b4
          simp only [List.getElem?_map, Nat.sub_zero, Array.getElem?_toList, Array.getElem?_modify, List.getElem?_set] at hq ⊢
          by_cases hjq : j = q
          · subst hjq
            simp only [if_true]
            simp only [Nat.zero_add] at j2
            rw [if_pos j2]
            rw [show es[j]? = some (s, m) from j3] at hq
            cases he : ents[j]? with
            | none => rw [he] at hq; simp at hq
            | some e0 => simp
          · simp only [hjq, if_false]
            exact hq
      obtain ⟨ents', clock', hrun, hents⟩ := hrun
      have hset : ∀ b', b' ≠ b → (w.heap.setIfInBounds b (Go.Obj.map ents' clock'))[b']? = w.heap[b']? := fun b' hb' => by
        rw [Array.getElem?_setIfInBounds_ne (Ne.symm hb')]
      have hne : ∀ b' o, G.ow b' o ≠ some id → b' ≠ b := fun b' o q e => by subst e; exact q (b2 o)
      have hob : Obj G { w with heap := w.heap.setIfInBounds b (.map ents' clock') } id (.mp (mpPut s n es)) := by
        refine ⟨b, hρ0, b2, ?_⟩
        simp only [frz, mpo]
        rw [Array.getElem?_setIfInBounds_self_of_lt hblt]
        simp [hents]
      obtain ⟨m1, m2, m3⟩ := mem_upd (w' := { w with heap := w.heap.setIfInBounds b (.map ents' clock') }) hm (by simp) ⟨rfl, rfl, rfl⟩
        (fun b' o q => by simp only [cel, World.cell?]; rw [hset b' (hne b' o q)])
        (fun b' o q => by simp only [frz, mpo, World.frozen?]; rw [hset b' (hne b' o q)])
        (fun b' q => hset b' (hne b' 0 (by rw [q 0]; simp))) hob
      rw [setn_eq]
      refine ⟨undef, _, _, .inr ⟨by simp only [Sem.run_bind, hrun, Result.andThen_ok, Sem.run_pure], rfl⟩, .u _, m1, m2, m3⟩
    · trivial
  · trivial

end
end Go.Pv
