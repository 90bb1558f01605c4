/- How arguments that are read as data come to be read as values of kinds: numbers, texts, slices, structs. -/
import Derived.Test.YtbnjhmcbkocdjaaXW
import Derived.ChangeArms
import Derived.DataElems
import Derived.DataReads
import Derived.WideShapes
import Derived.ChangeShapes
import Derived.SizedLaws
set_option linter.unusedVariables false
set_option linter.unusedSimpArgs false
namespace Go.Proofs.YtbnjhmcbkocdjaaW.PrintWords
open Go.RowKit Go.ChangeShapes
/-- Whatever is read as data of type t is a value of kind d, of which ok holds. -/
def Opens {α : Type} (P : Program) (t : TypeId) (d : Kd α) (ok : α → Prop) : Prop :=
  ∀ {H : Type} (enc : TypeId × Value → H) (W : World) (fuel : Nat) (cs : List Value) (D : DataW H × List MemPlace),
    DataW.trod enc P W 0 (fun _ => true) true fuel t cs = some D → (∀ n ∈ D.1.weights P t, n ≤ reachBytes) → ∃ x, d.K W x cs ∧ ok x
section
variable {P : Program}
theorem weights_mem_all {H : Type} {e : TypeId} : ∀ {ds : List (DataW H)} {d : DataW H} {n : Nat}, d ∈ ds → n ∈ d.weights P e → n ∈ DataW.weightsAll P e ds
  | [], _, _, h, _ => absurd h (by simp)
  | x :: r, d, n, h, hn => by
    simp only [DataW.weightsAll, List.mem_append]
    rcases List.mem_cons.1 h with rfl | h
    · exact .inl hn
    · exact .inr (weights_mem_all h hn)
theorem sized_all {H : Type} {ts : List TypeId} {ds : List (DataW H)} (h : (DataW.weightsEach P ts ds).all (· ≤ reachBytes) = true) {j : Nat} {t : TypeId} {d : DataW H} (ht : ts[j]? = some t) (hd : ds[j]? = some d) : ∀ n ∈ d.weights P t, n ≤ reachBytes := by
  intro n hn
  simpa using List.all_eq_true.1 h _ (DataW.weights_mem_each ht hd n hn)
theorem opens_int {t : TypeId} {k : IntKind} (hu : P.underlying t = some (.int k)) : Opens P t (Kd.int k) (fun x => (Lit.int k x).wf = true) := by
  intro H enc W fuel cs D h _
  obtain ⟨n, rfl, _, hw⟩ := DataW.trod_int hu h
  exact ⟨n, rfl, hw⟩
theorem opens_bool {t : TypeId} (hu : P.underlying t = some .bool) : Opens P t Kd.bool (fun _ => True) := by
  intro H enc W fuel cs D h _
  obtain ⟨b, rfl, _⟩ := DataW.trod_bool hu h
  exact ⟨b, rfl, trivial⟩
theorem opens_string {t : TypeId} (hu : P.underlying t = some .string) : Opens P t Kd.string (fun s => s.size ≤ 140737488351232) := by
  intro H enc W fuel cs D h hw
  obtain ⟨s, rfl, rfl, hs⟩ := DataW.trod_string hu h
  refine ⟨s, rfl, ?_⟩
  have := hw _ (by simp only [DataW.weights]; exact List.mem_singleton.2 rfl)
  rw [Array.length_toList] at this
  exact this
theorem opens_slice {α : Type} {t e : TypeId} {d : Kd α} {ok : α → Prop} (hu : P.underlying t = some (.slice e)) (hs : P.cellsOf e = d.sz) (hz : 1 ≤ P.bytesOf e) (ho : Opens P e d ok) :
    Opens P t (Kd.slice e d) (fun xs => xs.length ≤ 140737488351232 ∧ ∀ x ∈ xs, ok x) := by
  intro H enc W fuel cs D h hw
  rcases DataW.trod_slice hu h with ⟨rfl, _⟩ | ⟨a, len, cap, elems, rest, n, _, rfl, rfl, hb, hl, hm, hlen, hel, _, _⟩
  · exact ⟨[], ⟨none, 0, rfl, Nat.le_refl _, rfl, by simp, fun h => absurd h (Nat.lt_irrefl 0)⟩, by simp, by simp⟩
  have hwl : len ≤ 140737488351232 := by
    have h1 := hw ((elems.length + rest.length) * P.bytesOf e) (by simp only [DataW.weights, hu, List.length_map]; exact List.mem_cons_self ..)
    have h2 : len * 1 ≤ (elems.length + rest.length) * P.bytesOf e := Nat.mul_le_mul (by omega) hz
    unfold reachBytes at h1
    omega
  have hwe : ∀ y ∈ elems, ∀ n ∈ y.1.weights P e, n ≤ reachBytes := by
    intro y hy n hn
    refine hw n ?_
    simp only [DataW.weights, hu]
    refine List.mem_cons_of_mem _ (List.mem_append_left _ ?_)
    exact weights_mem_all (List.mem_map_of_mem hy) hn
  have each : ∀ i, i < len → ∃ x c, d.K W x c ∧ ok x ∧ c.length = d.sz ∧ ∀ j u, c[j]? = some u → W.cell? (a.add (i * d.sz + j)) = some u := by
    intro i hi
    have h1 := hel i hi
    rw [List.getElem?_eq_getElem (by omega), hs] at h1
    obtain ⟨c, hc, ht⟩ := Option.bind_eq_some_iff.1 h1
    obtain ⟨x, hK, hok⟩ := ho enc W n c _ ht (hwe _ (List.getElem_mem _))
    obtain ⟨_, hn, hcell⟩ := World.cells?_some hc
    refine ⟨x, c, hK, hok, hn, fun j u hu2 => ?_⟩
    have hj : j < c.length := (List.getElem?_eq_some_iff.1 hu2).1
    have := hcell j (by omega)
    rw [Addr.add_add, hu2] at this
    exact this
  obtain ⟨xs, hxl, hx⟩ : ∃ xs : List α, xs.length = len ∧ ∀ i x, xs[i]? = some x → ∃ c, d.K W x c ∧ ok x ∧ c.length = d.sz ∧ ∀ j u, c[j]? = some u → W.cell? (a.add (i * d.sz + j)) = some u := by
    have key : ∀ m, m ≤ len → ∃ xs : List α, xs.length = m ∧ ∀ i x, xs[i]? = some x → ∃ c, d.K W x c ∧ ok x ∧ c.length = d.sz ∧ ∀ j u, c[j]? = some u → W.cell? (a.add (i * d.sz + j)) = some u := by
      intro m
      induction m with
      | zero => exact fun _ => ⟨[], rfl, fun i x h => by simp at h⟩
      | succ m ih =>
        intro hm2
        obtain ⟨xs, hl2, hx⟩ := ih (by omega)
        obtain ⟨x, c, h1, h2, h3, h4⟩ := each m (by omega)
        refine ⟨xs ++ [x], by simp [hl2], fun i y hy => ?_⟩
        rcases Nat.lt_or_ge i xs.length with hi | hi
        · rw [List.getElem?_append_left hi] at hy
          exact hx i y hy
        · have hi2 : i = xs.length := by
            have := (List.getElem?_eq_some_iff.1 hy).1
            simp at this
            omega
          subst hi2
          have : x = y := by simpa using hy
          subst this
          rw [hl2]
          exact ⟨c, h1, h2, h3, h4⟩
    exact key len (Nat.le_refl _)
  refine ⟨xs, ⟨some a, cap, by rw [hxl], by omega, by rw [hxl], ?_, fun _ => ⟨a, rfl, fun j p hj => ?_⟩⟩, ?_, ?_⟩
  · unfold maxLen at hm; omega
  · obtain ⟨c, h1, _, h3, h4⟩ := hx j p hj
    exact ⟨c, h3, h1, h4⟩
  · omega
  · intro x hxm
    obtain ⟨i, hi, rfl⟩ := List.mem_iff_getElem.1 hxm
    obtain ⟨_, _, h2, _⟩ := hx i _ (List.getElem?_eq_getElem hi)
    exact h2
/-- The fields from a place on. -/
def OpensAt {α : Type} (P : Program) (fs : List Field) (off : Nat) (d : Kd α) (ok : α → Prop) : Prop :=
  ∀ {H : Type} (enc : TypeId × Value → H) (W : World) (n : Nat) (cs : List Value),
    (∀ f ∈ fs, ∃ y, DataW.trod enc P W 0 (fun _ => true) true n f.type ((cs.drop f.offset).take (P.cellsOf f.type)) = some y ∧ ∀ m ∈ y.1.weights P f.type, m ≤ reachBytes) → cs.length = off + d.sz → ∃ x, d.K W x (cs.drop off) ∧ ok x
theorem opensAt_last {α : Type} {f : Field} {d : Kd α} {ok : α → Prop} (hs : P.cellsOf f.type = d.sz) (ho : Opens P f.type d ok) : OpensAt P [f] f.offset d ok := by
  intro H enc W n cs h hl
  obtain ⟨y, hy, hyw⟩ := h f (by simp)
  obtain ⟨x, hK, hok⟩ := ho enc W n _ y hy hyw
  rw [hs, List.take_of_length_le (by rw [List.length_drop]; omega)] at hK
  exact ⟨x, hK, hok⟩
theorem opensAt_cons {α β : Type} {f : Field} {fs : List Field} {off2 : Nat} {d : Kd α} {d2 : Kd β} {ok : α → Prop} {ok2 : β → Prop} (hs : P.cellsOf f.type = d.sz) (ho : Opens P f.type d ok) (h2 : OpensAt P fs off2 d2 ok2) (he : off2 = f.offset + d.sz) :
    OpensAt P (f :: fs) f.offset (Kd.pair d d2) (fun x => ok x.1 ∧ ok2 x.2) := by
  subst he
  intro H enc W n cs h hl
  have hl' : cs.length = f.offset + (d.sz + d2.sz) := hl
  obtain ⟨y, hy, hyw⟩ := h f (by simp)
  obtain ⟨x, hK, hok⟩ := ho enc W n _ y hy hyw
  obtain ⟨x2, hK2, hok2⟩ := h2 enc W n cs (fun g hg => h g (List.mem_cons_of_mem _ hg)) (by omega)
  refine ⟨(x, x2), ⟨(cs.drop f.offset).take d.sz, cs.drop (f.offset + d.sz), ?_, by rw [hs] at hK; exact hK, hK2⟩, hok, hok2⟩
  rw [← List.drop_drop, List.take_append_drop]
theorem opens_struct {α β : Type} {t : TypeId} {fs : Array Field} {d : Kd β} {ok : β → Prop} (f : α → β) (g : β → α) (hfg : ∀ y, f (g y) = y) (hu : P.underlying t = some (.struct fs)) (hs : P.cellsOf t = d.sz) (ho : OpensAt P fs.toList 0 d ok) :
    Opens P t (Kd.iso d f) (fun x => ok (f x)) := by
  intro H enc W fuel cs D h hw
  obtain ⟨xs, n, _, rfl, hl, hlen, hf⟩ := DataW.trod_struct hu h
  obtain ⟨x, hK, hok⟩ := ho enc W n cs (fun fd hfd => by
    obtain ⟨i, hi, rfl⟩ := List.mem_iff_getElem.1 hfd
    have hi' : i < fs.size := by simpa using hi
    refine ⟨xs[i]'(by omega), ?_, ?_⟩
    rotate_left
    · intro m hm
      refine hw m ?_
      simp only [DataW.weights, hu]
      exact DataW.weights_mem_each (j := i) (by rw [List.getElem?_map, List.getElem?_eq_getElem hi]; rfl) (by rw [List.getElem?_map, List.getElem?_eq_getElem (show i < xs.length by omega)]; rfl) m hm
    have e : fs[i]? = some fs.toList[i] := by rw [Array.getElem?_eq_getElem hi']; simp
    have h3 := hf i _ e
    rw [List.getElem?_eq_getElem (show i < xs.length by omega)] at h3
    exact h3) (by rw [hl, hs]; omega)
  refine ⟨g x, ?_, ?_⟩
  · show d.K W (f (g x)) cs
    rw [hfg]; simpa using hK
  · show ok (f (g x))
    rw [hfg]; exact hok
theorem opens_imp {α : Type} {t : TypeId} {d : Kd α} {ok ok2 : α → Prop} (h : Opens P t d ok) (hi : ∀ x, ok x → ok2 x) : Opens P t d ok2 := by
  intro H enc W fuel cs D hd hw
  obtain ⟨x, hK, hok⟩ := h enc W fuel cs D hd hw
  exact ⟨x, hK, hi x hok⟩
theorem opens_trod {α : Type} {t : TypeId} {d : Kd α} {ok : α → Prop} (ho : Opens P t d ok) {H : Type} {enc : TypeId × Value → H} {W : World} {v : Value} {D : DataW H} {ps : List MemPlace}
    (h : DataW.Trod enc P W 0 (fun _ => true) true t v D ps) (hw : ∀ n ∈ D.weights P t, n ≤ reachBytes) : ∃ x, d.K W x v.cells.toList ∧ ok x := by
  obtain ⟨fuel, hf⟩ := h
  exact ho enc W fuel _ _ hf hw
end
end Go.Proofs.YtbnjhmcbkocdjaaW.PrintWords
