/- The engine, part 2: what plain values are in the machine's memory. -/
import Derived.Test.YtfnhnkaikpgnbaaPv1
import Derived.Laws.Cells
import Derived.Laws.World
import Derived.Laws.Rows
namespace Go.Pv
open Go
set_option linter.all false
set_option linter.constructorNameAsVariable false
set_option linter.unusedSectionVars false
set_option linter.unusedVariables false
set_option linter.unusedSimpArgs false
variable {N : List Nat}

theorem nth_eq {α : Type} : ∀ (l : List α) (i : Nat), nth l i = l[i]?
  | [], i => by simp [nth]
  | x :: r, 0 => by simp [nth]
  | x :: r, i + 1 => by simp [nth, nth_eq r i]
theorem setn_eq {α : Type} : ∀ (l : List α) (i : Nat) (y : α), setn l i y = l.set i y
  | [], i, y => by simp [setn]
  | x :: r, 0, y => by simp [setn]
  | x :: r, i + 1, y => by simp [setn, setn_eq r i y]
theorem cut_some {α : Type} {off n : Nat} {l us : List α} (h : cut off n l = some us) : off + n ≤ l.length ∧ us = (l.drop off).take n := by
  unfold cut at h
  split at h
  · rename_i hb
    injection h with h
    exact ⟨Nat.le_of_ble_eq_true hb, h.symm⟩
  · cases h

/-! ### cells -/
def cel (w : World) (b o : Nat) : Option Value := w.cell? ⟨b, o, none⟩
/-- What a block holds that is a map. -/
def mpo (w : World) (b : Nat) : Option (List (Value × Value)) := match w.heap[b]? with
  | some (.map es _) => some (es.toList.map fun e => (e.key, e.val))
  | _ => none
def frz (w : World) (b o : Nat) : Bool × Option (List (Value × Value)) := (w.frozen? ⟨b, o, none⟩, mpo w b)

structure Gh (N : List Nat) where
  ρ : List Value
  ow : Nat → Nat → Option Nat
  I : Nat → Nat → Prop

/-- A plain value as a value of the machine. -/
inductive Rel (G : Gh N) (w : World) : V → Value → Prop
  | u (v : Value) : Rel G w .u v
  | b (x : Bool) : Rel G w (.b x) (.bool x)
  | i (k : IntKind) (n : Int) (h : k = .u8 → 0 ≤ n ∧ n < 256) : Rel G w (.i k n) (.int k n)
  | s (x : ByteArray) : Rel G w (.s x) (.string x)
  | f (x : Nat) : Rel G w (.f x) (.float .f64 x)
  | c (a b : Nat) : Rel G w (.c a b) (.complex .f64 a b)
  | nil : Rel G w .nil (.slice none 0 0)
  | lnil (e : Ty) (A : Option Addr) (cap : Nat) : Rel G w (.l e []) (.slice A 0 cap)
  | l (e : Ty) (xs : List e.den) (b o cap : Nat) (f : Nat → Value) (hc : xs.length ≤ cap)
      (hm : ∀ (j : Nat) (x : e.den) (k : Nat) (v : V), xs[j]? = some x → (e.leaves x)[k]? = some v → G.I b (o + (j * e.n + k)) ∧ cel w b (o + (j * e.n + k)) = some (f (j * e.n + k)))
      (hr : ∀ (j : Nat) (x : e.den) (k : Nat) (v : V), xs[j]? = some x → (e.leaves x)[k]? = some v → Rel G w v (f (j * e.n + k))) : Rel G w (.l e xs) (.slice (some ⟨b, o, none⟩) xs.length cap)
  | np : Rel G w .np (.pointer none)
  | row (id : Nat) (v : Value) (h : G.ρ[id]? = some v) : Rel G w (.row id) v
  | ptr (id off b o : Nat) (h : G.ρ[id]? = some (.pointer (some ⟨b, o, none⟩))) : Rel G w (.ptr id off) (.pointer (some ⟨b, o + off, none⟩))
  | pel (e : Ty) (id : Nat) (i : Int) (off b o len cap : Nat) (h : G.ρ[id]? = some (.slice (some ⟨b, o, none⟩) len cap)) : Rel G w (.pel e id i off) (.pointer (some ⟨b, o + (i.toNat * e.n + off), none⟩))
  | pim (vs : List V) (b o : Nat) (f : Nat → Value)
      (hm : ∀ (k : Nat) (v : V), vs[k]? = some v → G.I b (o + k) ∧ cel w b (o + k) = some (f k))
      (hr : ∀ (k : Nat) (v : V), vs[k]? = some v → Rel G w v (f k)) : Rel G w (.pim vs) (.pointer (some ⟨b, o, none⟩))
  | fn (f : Fn) (cs : List V) (vals : Array Value) (hl : vals.size = cs.length)
      (hr : ∀ (k : Nat) (c : V) (v : Value), cs[k]? = some c → vals[k]? = some v → Rel G w c v) : Rel G w (.fn f cs) (.func f #[] vals)
  | agg (vs : List V) (vals : Array Value) (hl : vals.size = vs.length)
      (hr : ∀ (k : Nat) (c : V) (v : Value), vs[k]? = some c → vals[k]? = some v → Rel G w c v) : Rel G w (.agg vs) (.agg vals)
  | tup (vs : List V) (vals : Array Value) (hl : vals.size = vs.length)
      (hr : ∀ (k : Nat) (c : V) (v : Value), vs[k]? = some c → vals[k]? = some v → Rel G w c v) : Rel G w (.tup vs) (.tuple vals)

/-- What was known is known still. -/
structure Subs (G : Gh N) (w : World) (G' : Gh N) (w' : World) : Prop where
  I : ∀ b o, G.I b o → G'.I b o ∧ cel w' b o = cel w b o
  ρ : ∀ (id : Nat) (v : Value), G.ρ[id]? = some v → G'.ρ[id]? = some v

theorem Subs.refl (G : Gh N) (w : World) : Subs G w G w := ⟨fun _ _ h => ⟨h, rfl⟩, fun _ _ h => h⟩
theorem Subs.trans {G G1 G2 : Gh N} {w w1 w2 : World} (h : Subs G w G1 w1) (h' : Subs G1 w1 G2 w2) : Subs G w G2 w2 :=
  ⟨fun b o k => ⟨(h'.I b o (h.I b o k).1).1, (h'.I b o (h.I b o k).1).2.trans (h.I b o k).2⟩, fun id v k => h'.ρ id v (h.ρ id v k)⟩

theorem Rel.mono {G G' : Gh N} {w w' : World} (hs : Subs G w G' w') {v : V} {x : Value} (h : Rel G w v x) : Rel G' w' v x := by
  induction h with
  | u v => exact .u v
  | b x => exact .b x
  | i k n h => exact .i k n h
  | s x => exact .s x
  | f x => exact .f x
  | c a b => exact .c a b
  | nil => exact .nil
  | lnil e A cap => exact .lnil e A cap
  | l e xs b o cap f hc hm _ ih =>
    refine .l e xs b o cap f hc (fun j x k v hx hv => ?_) ih
    have := hm j x k v hx hv
    exact ⟨(hs.I _ _ this.1).1, (hs.I _ _ this.1).2.trans this.2⟩
  | np => exact .np
  | row id v h => exact .row id v (hs.ρ _ _ h)
  | ptr id off b o h => exact .ptr id off b o (hs.ρ _ _ h)
  | pel e id i off b o len cap h => exact .pel e id i off b o len cap (hs.ρ _ _ h)
  | pim vs b o f hm _ ih =>
    refine .pim vs b o f (fun k v hv => ?_) ih
    have := hm k v hv
    exact ⟨(hs.I _ _ this.1).1, (hs.I _ _ this.1).2.trans this.2⟩
  | fn f cs vals hl _ ih => exact .fn f cs vals hl ih
  | agg vs vals hl _ ih => exact .agg vs vals hl ih
  | tup vs vals hl _ ih => exact .tup vs vals hl ih

theorem Rel.one {G : Gh N} {w : World} {v : V} {x : Value} (h : Rel G w v x) (hl : v.leaf = true) (hr : ∀ id, v ≠ .row id) : x.oneCell' = true := by
  cases h <;> first | rfl | (simp [V.leaf] at hl; done) | exact absurd rfl (hr _)

/-! ### objects -/

/-- A block as a whole: of one owner, and unmarked (but for bytes). -/
def Whole (own : Nat → Prop) (w : World) (e : Ty) (b : Nat) : Prop := e = .y8 ∨ ∀ k, own k ∧ (frz w b k).1 = false
theorem Whole.keep {own own' : Nat → Prop} {w w' : World} {e : Ty} {b : Nat} (hk : ∀ k, own k → own' k ∧ frz w' b k = frz w b k) (h : Whole own w e b) : Whole own' w' e b := by
  rcases h with h | h
  · exact .inl h
  · exact .inr fun k => ⟨(hk k (h k).1).1, by rw [(hk k (h k).1).2]; exact (h k).2⟩

/-- A row's cells. -/
def RowAt (G : Gh N) (w : World) (id : Nat) (e : Ty) (xs : List e.den) (b o cap : Nat) : Prop :=
  xs.length ≤ cap ∧ (∀ k, k < cap * e.n → G.ow b (o + k) = some id ∧ (frz w b (o + k)).1 = false ∧ (cel w b (o + k)).isSome = true ∧ Whole (fun k => G.ow b k = some id) w e b) ∧
    ∀ (j : Nat) (x : e.den) (k : Nat) (v : V), xs[j]? = some x → (e.leaves x)[k]? = some v → ∃ val, cel w b (o + (j * e.n + k)) = some val ∧ Rel G w v val

/-- An element of a row of rows: the row itself. -/
def InAt (own : Nat → Nat → Prop) (sub : Nat → Nat → Option Nat) (G : Gh N) (w : World) (e : Ty) (j : Nat) (xs : List e.den) (val : Value) : Prop :=
  (val = .slice none 0 0 ∧ xs = []) ∨ ∃ b o cap, val = .slice (some ⟨b, o, none⟩) xs.length cap ∧ xs.length ≤ cap ∧
    (∀ k, k < cap * e.n → own b (o + k) ∧ sub b (o + k) = some j ∧ (frz w b (o + k)).1 = false ∧ (cel w b (o + k)).isSome = true ∧ Whole (fun k => own b k ∧ sub b k = some j) w e b) ∧
    ∀ (i : Nat) (x : e.den) (k : Nat) (v : V), xs[i]? = some x → (e.leaves x)[k]? = some v → ∃ u, cel w b (o + (i * e.n + k)) = some u ∧ Rel G w v u
/-- A row of rows. -/
def RwAt (own : Nat → Nat → Prop) (sub : Nat → Nat → Option Nat) (G : Gh N) (w : World) (e : Ty) (xss : List (List e.den)) (hole : Option Int) (b o cap : Nat) : Prop :=
  xss.length ≤ cap ∧ (∀ k, k < cap → own b (o + k) ∧ sub b (o + k) = none ∧ (frz w b (o + k)).1 = false ∧ (cel w b (o + k)).isSome = true) ∧
    ∀ (j : Nat) (xs : List e.den), xss[j]? = some xs → hole ≠ some (j : Int) → ∃ val, cel w b (o + j) = some val ∧ InAt own sub G w e j xs val

def Obj (G : Gh N) (w : World) (id : Nat) : Ob → Prop
  | .rw e xss hole => ∃ b o cap sub, G.ρ[id]? = some (.slice (some ⟨b, o, none⟩) xss.length cap) ∧ RwAt (fun b o => G.ow b o = some id) sub G w e xss hole b o cap
  | .box vs => ∃ b o, G.ρ[id]? = some (.pointer (some ⟨b, o, none⟩)) ∧ ∀ (k : Nat) (v : V), vs[k]? = some v → G.ow b (o + k) = some id ∧ (frz w b (o + k)).1 = false ∧ ∃ val, cel w b (o + k) = some val ∧ Rel G w v val
  | .row e xs => (G.ρ[id]? = some (.slice none 0 0) ∧ xs = []) ∨ ∃ b o cap, G.ρ[id]? = some (.slice (some ⟨b, o, none⟩) xs.length cap) ∧ RowAt G w id e xs b o cap
  | .fro e xs => ∃ v, G.ρ[id]? = some v ∧ Rel G w (.l e xs) v
  | .mp es => ∃ b, G.ρ[id]? = some (.map (some b)) ∧ (∀ o, G.ow b o = some id) ∧ (frz w b 0).2 = some (es.map fun p => (.string p.1, .int .i64 p.2))
  | .dead => ∃ v, G.ρ[id]? = some v

structure Mem (G : Gh N) (w : World) (h : List Ob) : Prop where
  len : G.ρ.length = h.length
  one : ∀ (id : Nat) (v : Value), G.ρ[id]? = some v → v.oneCell' = true
  obj : ∀ (id : Nat) (ob : Ob), h[id]? = some ob → Obj G w id ob
  I : ∀ b o, G.I b o → G.ow b o = none ∧ b < w.heap.size
  ow : ∀ b o id, G.ow b o = some id → id < h.length ∧ b < w.heap.size
  gl : ∀ b, b ∈ N → G.I b 0 ∧ ∃ n, cel w b 0 = some (.int .i64 n)

theorem gl_sub {G G' : Gh N} {w w' : World} (hs : Subs G w G' w') (h : ∀ b, b ∈ N → G.I b 0 ∧ ∃ n, cel w b 0 = some (.int .i64 n)) : ∀ b, b ∈ N → G'.I b 0 ∧ ∃ n, cel w' b 0 = some (.int .i64 n) := fun b hb => by
  obtain ⟨h1, n, h2⟩ := h b hb
  obtain ⟨k1, k2⟩ := hs.I b 0 h1
  exact ⟨k1, n, k2.trans h2⟩

/-- The world outside memory. -/
def Rest (w w' : World) : Prop := w'.os = w.os ∧ w'.tape = w.tape ∧ w'.output = w.output
theorem Rest.refl (w : World) : Rest w w := ⟨rfl, rfl, rfl⟩
theorem Rest.trans {w w1 w2 : World} (h : Rest w w1) (k : Rest w1 w2) : Rest w w2 := ⟨k.1.trans h.1, k.2.1.trans h.2.1, k.2.2.trans h.2.2⟩

/-- What is not the run's own is as it was. -/
structure Ext (G : Gh N) (w : World) (G' : Gh N) (w' : World) : Prop where
  I : ∀ b o, G.I b o → G'.I b o
  size : w.heap.size ≤ w'.heap.size
  cell : ∀ b o, b < w.heap.size → G.ow b o = none → G'.ow b o = none ∧ cel w' b o = cel w b o ∧ frz w' b o = frz w b o
  block : ∀ b, b < w.heap.size → (∀ o, G.ow b o = none) → w'.heap[b]? = w.heap[b]?
  inew : ∀ b o, b < w.heap.size → G'.I b o → G.I b o ∨ G.ow b o ≠ none
  rest : Rest w w'

theorem Ext.refl (G : Gh N) (w : World) : Ext G w G w := ⟨fun _ _ h => h, Nat.le_refl _, fun _ _ _ h => ⟨h, rfl, rfl⟩, fun _ _ _ => rfl, fun _ _ _ h => .inl h, Rest.refl _⟩
theorem Ext.trans {G G1 G2 : Gh N} {w w1 w2 : World} (h : Ext G w G1 w1) (h' : Ext G1 w1 G2 w2) : Ext G w G2 w2 := by
  refine ⟨fun b o k => h'.I b o (h.I b o k), Nat.le_trans h.size h'.size, fun b o hb ho => ?_, fun b hb ho => ?_, fun b o hb hi => ?_, h.rest.trans h'.rest⟩
  · obtain ⟨h1, h2, h3⟩ := h.cell b o hb ho
    obtain ⟨k1, k2, k3⟩ := h'.cell b o (Nat.lt_of_lt_of_le hb h.size) h1
    exact ⟨k1, k2.trans h2, k3.trans h3⟩
  · exact (h'.block b (Nat.lt_of_lt_of_le hb h.size) fun o => (h.cell b o hb (ho o)).1).trans (h.block b hb ho)
  · rcases h'.inew b o (Nat.lt_of_lt_of_le hb h.size) hi with k | k
    · exact h.inew b o hb k
    · exact .inr fun e => k (h.cell b o hb e).1

/-- A state of the run. -/
structure Abs (D : List Deferred) (n : Nat) (G : Gh N) (s : St) (a : Act) (w : World) : Prop where
  defers : a.defers = D
  size : a.tmps.size = n
  env : ∀ t, Rel G w (look t s.env) (a.tmps.getD t undef)
  mem : Mem G w s.h

end Go.Pv
