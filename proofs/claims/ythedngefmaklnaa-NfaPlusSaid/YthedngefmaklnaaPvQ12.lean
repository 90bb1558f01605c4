/- The meanings of functions, laid open: written by eqs.py. -/
import Derived.Test.YthedngefmaklnaaPvL12
namespace Go.Pv.L12
open Go Go.Pv Go.Proofs
set_option linter.all false
set_option linter.constructorNameAsVariable false
set_option linter.unusedSectionVars false
set_option linter.unusedVariables false
set_option linter.unusedSimpArgs false
set_option maxRecDepth 100000
theorem E38_0_eq (k j : Nat) (x0 : Ty.den T9) (x3 : Ty.den T3) : E38_0 k (j + 1) (x0, x3, ()) = (
  bif decide (x3 < (↑(ByteArray.size x0) : Int)) then bif inb x3 (ByteArray.size x0) then bif bif !bif decide (97 ≤ (↑(bt x0 x3).toNat : Int)) then decide ((↑(bt x0 x3).toNat : Int) ≤ 122) else false then bif decide (x3 = 0) then true else bif !decide ((↑(bt x0 x3).toNat : Int) = 95) then bif decide ((↑(bt x0 x3).toNat : Int) < 48) then true else decide (57 < (↑(bt x0 x3).toNat : Int)) else false else false then some (Sum.inr (Sum.inl (false, ()))) else E38_0 k j (x0, IntKind.i64.wrap (x3 + 1), ()) else none else some (Sum.inl (x0, ()))) := by kernel_rfl
theorem F38_eq (k : Nat) (x0 : Ty.den T9) : F38 k (x0, ()) = (
(E38_0 k k (x0, 0, ())).bind fun y =>
  match y with
  | Sum.inl y => some ((bif decide (1 ≤ (↑(ByteArray.size y.fst) : Int)) then decide ((↑(ByteArray.size y.fst) : Int) ≤ 16) else false, ()), ())
  | Sum.inr y =>
    match y with
    | Sum.inl y => some ((y.fst, ()), ())
    | Sum.inr y => nomatch y) := by kernel_rfl
theorem E39_0_eq (k j : Nat) (x0 : Ty.den T9) (x3 : List (Ty.den T9)) (x4 : Ty.den T3) : E39_0 k (j + 1) (x0, x3, x4, ()) = (
  bif decide (x4 < (↑x3.length : Int)) then bif inb x4 x3.length then bif inb x4 x3.length then bif decide (rd Ty.s x3 x4 = x0) then some (Sum.inr (Sum.inl (true, ()))) else E39_0 k j (x0, x3, IntKind.i64.wrap (x4 + 1), ()) else none else none else some (Sum.inl ())) := by kernel_rfl
theorem F28_eq (k : Nat) (x0 : Ty.den T9) : F28 k (x0, ()) = (
(F38 k (x0, ())).bind fun y => (bif y.fst.fst then F39 k (x0, ()) else some ((Ty.b.dflt, ()), ())).bind fun y_1 => some ((bif y.fst.fst then !y_1.fst.fst else false, ()), ())) := by kernel_rfl
theorem E26_0_0_eq (k j : Nat) (x1 : Ty.den T4) (x2f0 : Ty.den T38) (x5 : Ty.den T3) (x6 : Ty.den T3) : E26_0_0 k (j + 1) (x1, (x2f0, ()), x5, x6, ()) = (
  bif decide (x6 < x5) then bif inb x6 (List.length x2f0.snd.fst) then bif inb x5 (List.length x2f0.snd.fst) then bif decide (rd Ty.s x2f0.snd.fst x6 = rd Ty.s x2f0.snd.fst x5) then some (Sum.inr (Sum.inl (false, ()))) else E26_0_0 k j (x1, (x2f0, ()), x5, IntKind.i64.wrap (x6 + 1), ()) else none else none else some (Sum.inl (x1, (x2f0, ()), x5, ()))) := by kernel_rfl
theorem E26_0_eq (k j : Nat) (x1 : Ty.den T4) (x2f0 : Ty.den T38) (x5 : Ty.den T3) : E26_0 k (j + 1) (x1, (x2f0, ()), x5, ()) = (
  bif decide (x5 < (↑(List.length x2f0.snd.fst) : Int)) then
  bif inb x5 (List.length x2f0.snd.fst) then
    (F28 k (rd Ty.s x2f0.snd.fst x5, ())).bind fun y =>
      bif !y.fst.fst then some (Sum.inr (Sum.inl (false, ())))
      else
        (E26_0_0 k k (x1, (x2f0, ()), x5, 0, ())).bind fun y =>
          match y with
          | Sum.inl y => E26_0 k j (y.fst, (y.snd.fst.fst, ()), IntKind.i64.wrap (y.snd.snd.fst + 1), ())
          | Sum.inr y =>
            match y with
            | Sum.inl y => some (Sum.inr (Sum.inl (y.fst, ())))
            | Sum.inr y => nomatch y
  else none
  else some (Sum.inl (x1, (x2f0, ()), ()))) := by kernel_rfl
theorem F26_eq (k : Nat) (x0 : Ty.den T38) (x1 : Ty.den T4) : F26 k (x0, x1, ()) = (
(F28 k (x0.snd.snd.fst, ())).bind fun y =>
  bif bif bif bif bif !y.fst.fst then true else decide ((↑(List.length x0.snd.fst) : Int) < 1) then true else decide (3 < (↑(List.length x0.snd.fst) : Int)) then true else decide (x0.snd.snd.snd < 1) then true else decide (3 < x0.snd.snd.snd) then some ((false, ()), ())
  else
    (E26_0 k k (x1, (x0, ()), 0, ())).bind fun y =>
      match y with
      | Sum.inl y => bif bif y.fst then bif y.snd.fst.fst.fst then true else decide (y.snd.fst.fst.snd.snd.snd = 3) else false then some ((false, ()), ()) else some ((bif !y.snd.fst.fst.fst then true else decide (y.snd.fst.fst.snd.snd.snd = 1), ()), ())
      | Sum.inr y =>
        match y with
        | Sum.inl y => some ((y.fst, ()), ())
        | Sum.inr y => nomatch y) := by kernel_rfl
theorem F37_eq (k : Nat) (x0 : Ty.den T47) : F37 k (x0, ()) = (
  bif decide (x0.fst = 1) then some ((bif bif decide (-1099511627776 ≤ x0.snd.fst) then decide (x0.snd.fst ≤ 1099511627776) else false then decide (x0.snd.snd = { data := #[] : ByteArray }) else false, ()), ()) else bif decide (x0.fst = 2) then some ((bif decide (x0.snd.fst = 0) then decide ((↑(ByteArray.size x0.snd.snd) : Int) ≤ 64) else false, ()), ()) else bif decide (x0.fst = 3) then some ((bif bif decide (0 ≤ x0.snd.fst) then decide (x0.snd.fst ≤ 1) else false then decide (x0.snd.snd = { data := #[] : ByteArray }) else false, ()), ()) else some ((false, ()), ())) := by kernel_rfl
theorem E27_0_eq (k j : Nat) (s27 : shsDen I27 → Option (shsDen O27 × shsDen (shsUpd I27))) (x2f0 : Ty.den T50) (x7 : Ty.den T3) : E27_0 k s27 (j + 1) ((x2f0, ()), x7, ()) = (
  let t0 : Bool := (bif decide ((↑(bt (Ex.vs x2f0) x7).toNat : Int) < 32) then true else decide (126 < (↑(bt (Ex.vs x2f0) x7).toNat : Int)));
  bif decide (x7 < (↑(Ex.vs x2f0).size : Int)) then bif inb x7 (Ex.vs x2f0).size then bif bif !decide ((↑(bt (Ex.vs x2f0) x7).toNat : Int) < 32) then inb x7 (Ex.vs x2f0).size else true then bif bif !t0 then inb x7 (Ex.vs x2f0).size else true then bif bif t0 then true else decide ((↑(bt (Ex.vs x2f0) x7).toNat : Int) = 39) then some (Sum.inr (Sum.inl (false, ()))) else E27_0 k s27 j ((Ex.mk (Ex.kind x2f0) (Ex.vk x2f0) (Ex.vn x2f0) (Ex.vs x2f0) (Ex.var x2f0) (Ex.fld x2f0) (Ex.kids x2f0), ()), IntKind.i64.wrap (x7 + 1), ()) else none else none else none else some (Sum.inl ((Ex.mk (Ex.kind x2f0) (Ex.vk x2f0) (Ex.vn x2f0) (Ex.vs x2f0) (Ex.var x2f0) (Ex.fld x2f0) (Ex.kids x2f0), ()), ()))) := by kernel_rfl
theorem G27_eq (k : Nat) (s27 : shsDen I27 → Option (shsDen O27 × shsDen (shsUpd I27))) (x0 : Ty.den T50) (x1 : Ty.den T3) : G27 k s27 (x0, x1, ()) = (
  bif bif bif decide (x1 < 1) then true else bif !(bif decide (Ex.kind x0 = 7) then true else decide (Ex.kind x0 = 8)) then decide (0 < (↑(Ex.kids x0).length : Int)) else false then true else bif !decide (Ex.kind x0 = 1) then !(decide (Ex.vk x0 = 0) && (decide (Ex.vn x0 = 0) && (decide (Ex.vs x0 = { data := #[] : ByteArray }) && true))) else false then some ((false, ()), ())
  else
  bif bif bif bif decide (Ex.kind x0 = 2) then true else decide (Ex.kind x0 = 4) then true else decide (Ex.kind x0 = 5) then true else decide (Ex.kind x0 = 6) then (F28 k (Ex.var x0, ())).bind fun y => (bif y.fst.fst then F28 k (Ex.fld x0, ()) else some ((Ty.b.dflt, ()), ())).bind fun y_1 => some ((bif y.fst.fst then y_1.fst.fst else false, ()), ())
  else
    bif decide (Ex.kind x0 = 3) then (F28 k (Ex.var x0, ())).bind fun y => some ((bif y.fst.fst then decide (Ex.fld x0 = { data := #[] : ByteArray }) else false, ()), ())
    else
      bif bif !decide (Ex.var x0 = { data := #[] : ByteArray }) then true else !decide (Ex.fld x0 = { data := #[] : ByteArray }) then some ((false, ()), ())
      else
        bif (bif decide (Ex.kind x0 = 7) then true else decide (Ex.kind x0 = 8)) then bif bif decide ((↑(Ex.kids x0).length : Int) = 2) then inb 0 (Ex.kids x0).length else true then (bif decide ((↑(Ex.kids x0).length : Int) = 2) then s27 (Ex.mk (Ex.kind (rd Ty.ex (Ex.kids x0) 0)) (Ex.vk (rd Ty.ex (Ex.kids x0) 0)) (Ex.vn (rd Ty.ex (Ex.kids x0) 0)) (Ex.vs (rd Ty.ex (Ex.kids x0) 0)) (Ex.var (rd Ty.ex (Ex.kids x0) 0)) (Ex.fld (rd Ty.ex (Ex.kids x0) 0)) (Ex.kids (rd Ty.ex (Ex.kids x0) 0)), IntKind.i64.wrap (x1 - 1), ()) else some ((Ty.b.dflt, ()), ())).bind fun y => bif bif bif decide ((↑(Ex.kids x0).length : Int) = 2) then y.fst.fst else false then inb 1 (Ex.kids x0).length else true then (bif bif decide ((↑(Ex.kids x0).length : Int) = 2) then y.fst.fst else false then s27 (Ex.mk (Ex.kind (rd Ty.ex (Ex.kids x0) 1)) (Ex.vk (rd Ty.ex (Ex.kids x0) 1)) (Ex.vn (rd Ty.ex (Ex.kids x0) 1)) (Ex.vs (rd Ty.ex (Ex.kids x0) 1)) (Ex.var (rd Ty.ex (Ex.kids x0) 1)) (Ex.fld (rd Ty.ex (Ex.kids x0) 1)) (Ex.kids (rd Ty.ex (Ex.kids x0) 1)), IntKind.i64.wrap (x1 - 1), ()) else some ((Ty.b.dflt, ()), ())).bind fun y_1 => some ((bif bif decide ((↑(Ex.kids x0).length : Int) = 2) then y.fst.fst else false then y_1.fst.fst else false, ()), ()) else none else none
        else
          (E27_0 k s27 k ((Ex.mk (Ex.kind x0) (Ex.vk x0) (Ex.vn x0) (Ex.vs x0) (Ex.var x0) (Ex.fld x0) (Ex.kids x0), ()), 0, ())).bind fun y =>
            match y with
            | Sum.inl y => (bif decide (Ex.kind y.fst.fst = 1) then F37 k ((Ex.vk y.fst.fst, Ex.vn y.fst.fst, Ex.vs y.fst.fst), ()) else some ((Ty.b.dflt, ()), ())).bind fun y_1 => some ((bif decide (Ex.kind y.fst.fst = 1) then y_1.fst.fst else false, ()), ())
            | Sum.inr y =>
              match y with
              | Sum.inl y => some ((y.fst, ()), ())
              | Sum.inr y => nomatch y) := by kernel_rfl
theorem E17_0_0_eq (k j : Nat) (x1f0 : Ty.den T25) (x3 : Ty.den T3) (x4 : Ty.den T3) : E17_0_0 k (j + 1) ((x1f0, ()), x3, x4, ()) = (
  bif decide (x4 < x3) then bif inb x4 (List.length x1f0.fst) then bif inb x3 (List.length x1f0.fst) then bif decide ((rd (Ty.b.p (Ty.s.l.p (Ty.s.p (Ty.i IntKind.i64)))) x1f0.fst x4).snd.snd.fst = (rd (Ty.b.p (Ty.s.l.p (Ty.s.p (Ty.i IntKind.i64)))) x1f0.fst x3).snd.snd.fst) then some (Sum.inr (Sum.inl (false, ()))) else E17_0_0 k j ((x1f0, ()), x3, IntKind.i64.wrap (x4 + 1), ()) else none else none else some (Sum.inl ((x1f0, ()), x3, ()))) := by kernel_rfl
theorem E17_0_eq (k j : Nat) (x1f0 : Ty.den T25) (x3 : Ty.den T3) : E17_0 k (j + 1) ((x1f0, ()), x3, ()) = (
  bif decide (x3 < (↑(List.length x1f0.fst) : Int)) then
  bif inb x3 (List.length x1f0.fst) then
    (F26 k (rd (Ty.b.p (Ty.s.l.p (Ty.s.p (Ty.i IntKind.i64)))) x1f0.fst x3, decide (x3 = 0), ())).bind fun y =>
      bif !y.fst.fst then some (Sum.inr (Sum.inl (false, ())))
      else
        (E17_0_0 k k ((x1f0, ()), x3, 0, ())).bind fun y =>
          match y with
          | Sum.inl y => E17_0 k j ((y.fst.fst, ()), IntKind.i64.wrap (y.snd.fst + 1), ())
          | Sum.inr y =>
            match y with
            | Sum.inl y => some (Sum.inr (Sum.inl (y.fst, ())))
            | Sum.inr y => nomatch y
  else none
  else some (Sum.inl ((x1f0, ()), ()))) := by kernel_rfl
theorem E17_1_eq (k j : Nat) (x1f0 : Ty.den T25) (x5 : Ty.den T3) : E17_1 k (j + 1) ((x1f0, ()), x5, ()) = (
  let t0 : Bool := (bif decide ((rd ((Ty.i IntKind.i64).p (Ty.ex.p Ty.ex)) x1f0.snd.fst x5).fst < 1) then true else decide (6 < (rd ((Ty.i IntKind.i64).p (Ty.ex.p Ty.ex)) x1f0.snd.fst x5).fst));
  bif decide (x5 < (↑(List.length x1f0.snd.fst) : Int)) then bif inb x5 (List.length x1f0.snd.fst) then (bif !t0 then F27 k (Ex.mk (Ex.kind (rd ((Ty.i IntKind.i64).p (Ty.ex.p Ty.ex)) x1f0.snd.fst x5).snd.fst) (Ex.vk (rd ((Ty.i IntKind.i64).p (Ty.ex.p Ty.ex)) x1f0.snd.fst x5).snd.fst) (Ex.vn (rd ((Ty.i IntKind.i64).p (Ty.ex.p Ty.ex)) x1f0.snd.fst x5).snd.fst) (Ex.vs (rd ((Ty.i IntKind.i64).p (Ty.ex.p Ty.ex)) x1f0.snd.fst x5).snd.fst) (Ex.var (rd ((Ty.i IntKind.i64).p (Ty.ex.p Ty.ex)) x1f0.snd.fst x5).snd.fst) (Ex.fld (rd ((Ty.i IntKind.i64).p (Ty.ex.p Ty.ex)) x1f0.snd.fst x5).snd.fst) (Ex.kids (rd ((Ty.i IntKind.i64).p (Ty.ex.p Ty.ex)) x1f0.snd.fst x5).snd.fst), 6, ()) else some ((Ty.b.dflt, ()), ())).bind fun y => (bif !bif t0 then true else !y.fst.fst then F27 k (Ex.mk (Ex.kind (rd ((Ty.i IntKind.i64).p (Ty.ex.p Ty.ex)) x1f0.snd.fst x5).snd.snd) (Ex.vk (rd ((Ty.i IntKind.i64).p (Ty.ex.p Ty.ex)) x1f0.snd.fst x5).snd.snd) (Ex.vn (rd ((Ty.i IntKind.i64).p (Ty.ex.p Ty.ex)) x1f0.snd.fst x5).snd.snd) (Ex.vs (rd ((Ty.i IntKind.i64).p (Ty.ex.p Ty.ex)) x1f0.snd.fst x5).snd.snd) (Ex.var (rd ((Ty.i IntKind.i64).p (Ty.ex.p Ty.ex)) x1f0.snd.fst x5).snd.snd) (Ex.fld (rd ((Ty.i IntKind.i64).p (Ty.ex.p Ty.ex)) x1f0.snd.fst x5).snd.snd) (Ex.kids (rd ((Ty.i IntKind.i64).p (Ty.ex.p Ty.ex)) x1f0.snd.fst x5).snd.snd), 6, ()) else some ((Ty.b.dflt, ()), ())).bind fun y_1 => bif bif bif t0 then true else !y.fst.fst then true else !y_1.fst.fst then some (Sum.inr (Sum.inl (false, ()))) else E17_1 k j ((x1f0, ()), IntKind.i64.wrap (x5 + 1), ()) else none else some (Sum.inl ((x1f0, ()), ()))) := by kernel_rfl
theorem F17_eq (k : Nat) (x0 : Ty.den T25) : F17 k (x0, ()) = (
  bif bif bif decide ((↑(List.length x0.fst) : Int) < 1) then true else decide (6 < (↑(List.length x0.fst) : Int)) then true else decide (8 < (↑(List.length x0.snd.fst) : Int)) then some ((false, ()), ())
  else
  (E17_0 k k ((x0, ()), 0, ())).bind fun y =>
    match y with
    | Sum.inl y =>
      (E17_1 k k ((y.fst.fst, ()), 0, ())).bind fun y =>
        match y with
        | Sum.inl y => (bif (bif decide (0 ≤ y.fst.fst.snd.snd.fst) then decide (y.fst.fst.snd.snd.fst ≤ 1099511627776) else false) && !decide (y.fst.fst.snd.snd.snd.fst = { data := #[] : ByteArray }) then F28 k (y.fst.fst.snd.snd.snd.fst, ()) else some ((Ty.b.dflt, ()), ())).bind fun y_1 => some ((bif bif bif bif decide (0 ≤ y.fst.fst.snd.snd.fst) then decide (y.fst.fst.snd.snd.fst ≤ 1099511627776) else false then bif decide (y.fst.fst.snd.snd.snd.fst = { data := #[] : ByteArray }) then true else y_1.fst.fst else false then decide (1 ≤ y.fst.fst.snd.snd.snd.snd) else false then decide (y.fst.fst.snd.snd.snd.snd ≤ 3) else false, ()), ())
        | Sum.inr y =>
          match y with
          | Sum.inl y => some ((y.fst, ()), ())
          | Sum.inr y => nomatch y
    | Sum.inr y =>
      match y with
      | Sum.inl y => some ((y.fst, ()), ())
      | Sum.inr y => nomatch y) := by kernel_rfl
theorem E56_0_eq (k j : Nat) (x0 : Ty.den T9) (x6 : Ty.den T3) (x7 : Ty.den T3) : E56_0 k (j + 1) (x0, x6, x7, ()) = (
  bif decide (x7 < x6) then bif inb x7 (ByteArray.size x0) then bif bif decide (97 ≤ (↑(bt x0 x7).toNat : Int)) then decide ((↑(bt x0 x7).toNat : Int) ≤ 122) else false then E56_0 k j (x0, x6, IntKind.i64.wrap (x7 + 1), ()) else bif bif decide (0 < x7) then bif decide ((↑(bt x0 x7).toNat : Int) = 95) then true else bif decide (48 ≤ (↑(bt x0 x7).toNat : Int)) then decide ((↑(bt x0 x7).toNat : Int) ≤ 57) else false else false then E56_0 k j (x0, x6, IntKind.i64.wrap (x7 + 1), ()) else some (Sum.inr (Sum.inl (false, ()))) else none else some (Sum.inl (x0, ()))) := by kernel_rfl
theorem F56_eq (k : Nat) (x0 : Ty.den T9) : F56 k (x0, ()) = (
(E56_0 k k (x0, (↑(ByteArray.size x0) : Int), 0, ())).bind fun y =>
  match y with
  | Sum.inl y => some ((bif !decide (y.fst = { data := #[] : ByteArray }) then decide ((↑(ByteArray.size y.fst) : Int) ≤ 16) else false, ()), ())
  | Sum.inr y =>
    match y with
    | Sum.inl y => some ((y.fst, ()), ())
    | Sum.inr y => nomatch y) := by kernel_rfl
theorem F57_eq (k : Nat) (x0 : Ty.den T9) : F57 k (x0, ()) = (
(bif !decide (x0 = { data := #[] : ByteArray }) then F63 k (x0, { data := #[32] : ByteArray }, ()) else some ((Ty.b.dflt, ()), ())).bind fun y => bif bif bif !decide (x0 = { data := #[] : ByteArray }) then !y.fst.fst else false then decide ({ data := #[32] : ByteArray }.size + ByteArray.size x0 ≤ 9223372036854775807) else true then bif bif bif !decide (x0 = { data := #[] : ByteArray }) then !y.fst.fst else false then decide (({ data := #[32] : ByteArray } ++ x0).size + { data := #[32] : ByteArray }.size ≤ 9223372036854775807) else true then (bif bif !decide (x0 = { data := #[] : ByteArray }) then !y.fst.fst else false then F63 k ({ data := ([32, 115, 101, 113, 32, 116, 104, 101, 110, 32, 110, 111, 116, 32, 111, 114, 32, 119, 104, 101, 114, 101, 32, 97, 110, 100, 32, 119, 105, 116, 104, 105, 110, 32, 98, 121, 32, 112, 105, 99, 107, 32, 97].append [110, 121, 32, 110, 101, 120, 116, 32, 115, 116, 114, 105, 99, 116, 32, 116, 114, 117, 101, 32, 102, 97, 108, 115, 101, 32, 99, 111, 117, 110, 116, 32, 115, 117, 109, 32, 109, 105, 110, 32, 109, 97, 120, 32]).toArray : ByteArray }, { data := #[32] : ByteArray } ++ x0 ++ { data := #[32] : ByteArray }, ()) else some ((Ty.b.dflt, ()), ())).bind fun y_1 => some ((bif bif !decide (x0 = { data := #[] : ByteArray }) then !y.fst.fst else false then y_1.fst.fst else false, ()), ()) else none else none) := by kernel_rfl
theorem F33_eq (k : Nat) (x0 : Ty.den T9) : F33 k (x0, ()) = (
(F56 k (x0, ())).bind fun y => (bif y.fst.fst then F57 k (x0, ()) else some ((Ty.b.dflt, ()), ())).bind fun y_1 => some ((bif y.fst.fst then !y_1.fst.fst else false, ()), ())) := by kernel_rfl
theorem E31_0_eq (k j : Nat) (x1 : Ty.den T3) (x2f0 : Ty.den T38) (x5 : List (ByteArray × Int)) (x10 : Ty.den T26) (x11 : Ty.den T3) (x12 : Ty.den T3) : E31_0 k (j + 1) (x1, (x2f0, ()), x5, x10, x11, x12, ()) = (
  bif decide (x12 < x11) then
  bif inb x12 (List.length x10) then
    (bif
            !decide
                (1 <
                  match
                    mpGet (rd Ty.s x10 x12)
                      (mpPut (rd Ty.s x10 x12)
                        (IntKind.i64.wrap
                          ((match mpGet (rd Ty.s x10 x12) x5 with
                            | some n => n
                            | none => 0) +
                            1))
                        x5) with
                  | some n => n
                  | none => 0) then
          F33 k (rd Ty.s x10 x12, ())
        else some ((Ty.b.dflt, ()), ())).bind
      fun y =>
      bif
          bif
              decide
                (1 <
                  match
                    mpGet (rd Ty.s x10 x12)
                      (mpPut (rd Ty.s x10 x12)
                        (IntKind.i64.wrap
                          ((match mpGet (rd Ty.s x10 x12) x5 with
                            | some n => n
                            | none => 0) +
                            1))
                        x5) with
                  | some n => n
                  | none => 0) then
            true
          else !y.fst.fst then
        some (Sum.inr (Sum.inl (false, ())))
      else
        E31_0 k j
          (x1, (x2f0, ()),
            mpPut (rd Ty.s x10 x12)
              (IntKind.i64.wrap
                ((match mpGet (rd Ty.s x10 x12) x5 with
                  | some n => n
                  | none => 0) +
                  1))
              x5,
            x10, x11, IntKind.i64.wrap (x12 + 1), ())
  else none
  else some (Sum.inl (x1, (x2f0, ()), ()))) := by kernel_rfl
theorem F31_eq (k : Nat) (x0 : Ty.den T38) (x1 : Ty.den T3) : F31 k (x0, x1, ()) = (
(E31_0 k k (x1, (x0, ()), [], x0.snd.fst, (↑(List.length x0.snd.fst) : Int), 0, ())).bind fun y =>
  match y with
  | Sum.inl y => (F33 k (y.snd.fst.fst.snd.snd.fst, ())).bind fun y_1 => bif !y_1.fst.fst then bif !y_1.fst.fst then some ((false, ()), ()) else bif bif decide (y.fst = 0) then bif y.snd.fst.fst.fst then true else decide (y.snd.fst.fst.snd.snd.snd = 3) else false then bif bif decide (y.fst = 0) then bif y.snd.fst.fst.fst then true else decide (y.snd.fst.fst.snd.snd.snd = 3) else false then some ((false, ()), ()) else some ((true, ()), ()) else bif bif y.snd.fst.fst.fst then !decide (y.snd.fst.fst.snd.snd.snd = 1) else false then some ((false, ()), ()) else some ((true, ()), ()) else bif decide ((↑(List.length y.snd.fst.fst.snd.fst) : Int) = 0) then bif decide ((↑(List.length y.snd.fst.fst.snd.fst) : Int) = 0) then some ((false, ()), ()) else bif bif decide (y.fst = 0) then bif y.snd.fst.fst.fst then true else decide (y.snd.fst.fst.snd.snd.snd = 3) else false then bif bif decide (y.fst = 0) then bif y.snd.fst.fst.fst then true else decide (y.snd.fst.fst.snd.snd.snd = 3) else false then some ((false, ()), ()) else some ((true, ()), ()) else bif bif y.snd.fst.fst.fst then !decide (y.snd.fst.fst.snd.snd.snd = 1) else false then some ((false, ()), ()) else some ((true, ()), ()) else bif decide (3 < (↑(List.length y.snd.fst.fst.snd.fst) : Int)) then bif decide (3 < (↑(List.length y.snd.fst.fst.snd.fst) : Int)) then some ((false, ()), ()) else bif bif decide (y.fst = 0) then bif y.snd.fst.fst.fst then true else decide (y.snd.fst.fst.snd.snd.snd = 3) else false then bif bif decide (y.fst = 0) then bif y.snd.fst.fst.fst then true else decide (y.snd.fst.fst.snd.snd.snd = 3) else false then some ((false, ()), ()) else some ((true, ()), ()) else bif bif y.snd.fst.fst.fst then !decide (y.snd.fst.fst.snd.snd.snd = 1) else false then some ((false, ()), ()) else some ((true, ()), ()) else bif decide (y.snd.fst.fst.snd.snd.snd < 1) then bif decide (y.snd.fst.fst.snd.snd.snd < 1) then some ((false, ()), ()) else bif bif decide (y.fst = 0) then bif y.snd.fst.fst.fst then true else decide (y.snd.fst.fst.snd.snd.snd = 3) else false then bif bif decide (y.fst = 0) then bif y.snd.fst.fst.fst then true else decide (y.snd.fst.fst.snd.snd.snd = 3) else false then some ((false, ()), ()) else some ((true, ()), ()) else bif bif y.snd.fst.fst.fst then !decide (y.snd.fst.fst.snd.snd.snd = 1) else false then some ((false, ()), ()) else some ((true, ()), ()) else bif decide (3 < y.snd.fst.fst.snd.snd.snd) then some ((false, ()), ()) else bif bif decide (y.fst = 0) then bif y.snd.fst.fst.fst then true else decide (y.snd.fst.fst.snd.snd.snd = 3) else false then bif bif decide (y.fst = 0) then bif y.snd.fst.fst.fst then true else decide (y.snd.fst.fst.snd.snd.snd = 3) else false then some ((false, ()), ()) else some ((true, ()), ()) else bif bif y.snd.fst.fst.fst then !decide (y.snd.fst.fst.snd.snd.snd = 1) else false then some ((false, ()), ()) else some ((true, ()), ())
  | Sum.inr y =>
    match y with
    | Sum.inl y => some ((y.fst, ()), ())
    | Sum.inr y => nomatch y) := by kernel_rfl
theorem F54_eq (k : Nat) (x0 : Ty.den T47) : F54 k (x0, ()) = (
  bif decide (x0.fst = 1) then some ((bif bif decide (-1099511627776 ≤ x0.snd.fst) then decide (x0.snd.fst ≤ 1099511627776) else false then decide (x0.snd.snd = { data := #[] : ByteArray }) else false, ()), ()) else bif decide (x0.fst = 3) then some ((bif bif decide (0 ≤ x0.snd.fst) then decide (x0.snd.fst ≤ 1) else false then decide (x0.snd.snd = { data := #[] : ByteArray }) else false, ()), ()) else bif decide (x0.fst = 2) then some ((bif decide (x0.snd.fst = 0) then decide ((↑(ByteArray.size x0.snd.snd) : Int) ≤ 64) else false, ()), ()) else some ((false, ()), ())) := by kernel_rfl
theorem E55_0_eq (k j : Nat) (x0 : Ty.den T9) (x5 : Ty.den T3) (x6 : Ty.den T3) : E55_0 k (j + 1) (x0, x5, x6, ()) = (
  let t0 : Bool := (bif decide ((↑(bt x0 x6).toNat : Int) < 32) then true else decide (126 < (↑(bt x0 x6).toNat : Int)));
  bif decide (x6 < x5) then bif inb x6 (ByteArray.size x0) then bif bif !decide ((↑(bt x0 x6).toNat : Int) < 32) then inb x6 (ByteArray.size x0) else true then bif bif !t0 then inb x6 (ByteArray.size x0) else true then bif bif t0 then true else decide ((↑(bt x0 x6).toNat : Int) = 39) then some (Sum.inr (Sum.inl (false, ()))) else E55_0 k j (x0, x5, IntKind.i64.wrap (x6 + 1), ()) else none else none else none else some (Sum.inl ())) := by kernel_rfl
theorem F55_eq (k : Nat) (x0 : Ty.den T9) : F55 k (x0, ()) = (
(E55_0 k k (x0, (↑(ByteArray.size x0) : Int), 0, ())).bind fun y =>
  match y with
  | Sum.inl y => some ((true, ()), ())
  | Sum.inr y =>
    match y with
    | Sum.inl y => some ((y.fst, ()), ())
    | Sum.inr y => nomatch y) := by kernel_rfl
theorem G32_eq (k : Nat) (s32 : shsDen I32 → Option (shsDen O32 × shsDen (shsUpd I32))) (x0 : Ty.den T50) (x1 : Ty.den T3) : G32 k s32 (x0, x1, ()) = (
  bif decide (x1 = 0) then some ((false, ()), ()) else bif decide (Ex.kind x0 = 1) then (bif (bif (bif decide (Ex.var x0 = { data := #[] : ByteArray }) then decide (Ex.fld x0 = { data := #[] : ByteArray }) else false) then decide ((↑(Ex.kids x0).length : Int) = 0) else false) then F54 k ((Ex.vk x0, Ex.vn x0, Ex.vs x0), ()) else some ((Ty.b.dflt, ()), ())).bind fun y => (bif bif (bif (bif decide (Ex.var x0 = { data := #[] : ByteArray }) then decide (Ex.fld x0 = { data := #[] : ByteArray }) else false) then decide ((↑(Ex.kids x0).length : Int) = 0) else false) then y.fst.fst else false then F55 k (Ex.vs x0, ()) else some ((Ty.b.dflt, ()), ())).bind fun y_1 => some ((bif bif (bif (bif decide (Ex.var x0 = { data := #[] : ByteArray }) then decide (Ex.fld x0 = { data := #[] : ByteArray }) else false) then decide ((↑(Ex.kids x0).length : Int) = 0) else false) then y.fst.fst else false then y_1.fst.fst else false, ()), ()) else bif decide (Ex.kind x0 = 3) then (bif (bif decide (Ex.vk x0 = 0) && (decide (Ex.vn x0 = 0) && (decide (Ex.vs x0 = { data := #[] : ByteArray }) && true)) then decide ((↑(Ex.kids x0).length : Int) = 0) else false) then F33 k (Ex.var x0, ()) else some ((Ty.b.dflt, ()), ())).bind fun y => some ((bif bif (bif decide (Ex.vk x0 = 0) && (decide (Ex.vn x0 = 0) && (decide (Ex.vs x0 = { data := #[] : ByteArray }) && true)) then decide ((↑(Ex.kids x0).length : Int) = 0) else false) then y.fst.fst else false then decide (Ex.fld x0 = { data := #[] : ByteArray }) else false, ()), ()) else bif bif decide (2 ≤ Ex.kind x0) then decide (Ex.kind x0 ≤ 6) else false then (bif (bif decide (Ex.vk x0 = 0) && (decide (Ex.vn x0 = 0) && (decide (Ex.vs x0 = { data := #[] : ByteArray }) && true)) then decide ((↑(Ex.kids x0).length : Int) = 0) else false) then F33 k (Ex.var x0, ()) else some ((Ty.b.dflt, ()), ())).bind fun y => (bif bif (bif decide (Ex.vk x0 = 0) && (decide (Ex.vn x0 = 0) && (decide (Ex.vs x0 = { data := #[] : ByteArray }) && true)) then decide ((↑(Ex.kids x0).length : Int) = 0) else false) then y.fst.fst else false then F33 k (Ex.fld x0, ()) else some ((Ty.b.dflt, ()), ())).bind fun y_1 => some ((bif bif (bif decide (Ex.vk x0 = 0) && (decide (Ex.vn x0 = 0) && (decide (Ex.vs x0 = { data := #[] : ByteArray }) && true)) then decide ((↑(Ex.kids x0).length : Int) = 0) else false) then y.fst.fst else false then y_1.fst.fst else false, ()), ()) else bif decide (Ex.kind x0 = 7) then bif decide (Ex.kind x0 = 7) then bif (bif (bif bif (bif decide (Ex.var x0 = { data := #[] : ByteArray }) then decide (Ex.fld x0 = { data := #[] : ByteArray }) else false) then decide (Ex.vk x0 = 0) && (decide (Ex.vn x0 = 0) && (decide (Ex.vs x0 = { data := #[] : ByteArray }) && true)) else false then decide ((↑(Ex.kids x0).length : Int) = 2) else false) then inb 0 (Ex.kids x0).length else true) then (bif (bif bif (bif decide (Ex.var x0 = { data := #[] : ByteArray }) then decide (Ex.fld x0 = { data := #[] : ByteArray }) else false) then decide (Ex.vk x0 = 0) && (decide (Ex.vn x0 = 0) && (decide (Ex.vs x0 = { data := #[] : ByteArray }) && true)) else false then decide ((↑(Ex.kids x0).length : Int) = 2) else false) then s32 (Ex.mk (Ex.kind (rd Ty.ex (Ex.kids x0) 0)) (Ex.vk (rd Ty.ex (Ex.kids x0) 0)) (Ex.vn (rd Ty.ex (Ex.kids x0) 0)) (Ex.vs (rd Ty.ex (Ex.kids x0) 0)) (Ex.var (rd Ty.ex (Ex.kids x0) 0)) (Ex.fld (rd Ty.ex (Ex.kids x0) 0)) (Ex.kids (rd Ty.ex (Ex.kids x0) 0)), IntKind.i64.wrap (x1 - 1), ()) else some ((Ty.b.dflt, ()), ())).bind fun y => bif bif bif (bif bif (bif decide (Ex.var x0 = { data := #[] : ByteArray }) then decide (Ex.fld x0 = { data := #[] : ByteArray }) else false) then decide (Ex.vk x0 = 0) && (decide (Ex.vn x0 = 0) && (decide (Ex.vs x0 = { data := #[] : ByteArray }) && true)) else false then decide ((↑(Ex.kids x0).length : Int) = 2) else false) then y.fst.fst else false then inb 1 (Ex.kids x0).length else true then (bif bif (bif bif (bif decide (Ex.var x0 = { data := #[] : ByteArray }) then decide (Ex.fld x0 = { data := #[] : ByteArray }) else false) then decide (Ex.vk x0 = 0) && (decide (Ex.vn x0 = 0) && (decide (Ex.vs x0 = { data := #[] : ByteArray }) && true)) else false then decide ((↑(Ex.kids x0).length : Int) = 2) else false) then y.fst.fst else false then s32 (Ex.mk (Ex.kind (rd Ty.ex (Ex.kids x0) 1)) (Ex.vk (rd Ty.ex (Ex.kids x0) 1)) (Ex.vn (rd Ty.ex (Ex.kids x0) 1)) (Ex.vs (rd Ty.ex (Ex.kids x0) 1)) (Ex.var (rd Ty.ex (Ex.kids x0) 1)) (Ex.fld (rd Ty.ex (Ex.kids x0) 1)) (Ex.kids (rd Ty.ex (Ex.kids x0) 1)), IntKind.i64.wrap (x1 - 1), ()) else some ((Ty.b.dflt, ()), ())).bind fun y_1 => some ((bif bif (bif bif (bif decide (Ex.var x0 = { data := #[] : ByteArray }) then decide (Ex.fld x0 = { data := #[] : ByteArray }) else false) then decide (Ex.vk x0 = 0) && (decide (Ex.vn x0 = 0) && (decide (Ex.vs x0 = { data := #[] : ByteArray }) && true)) else false then decide ((↑(Ex.kids x0).length : Int) = 2) else false) then y.fst.fst else false then y_1.fst.fst else false, ()), ()) else none else none else some ((false, ()), ()) else bif decide (Ex.kind x0 = 8) then bif (bif (bif bif (bif decide (Ex.var x0 = { data := #[] : ByteArray }) then decide (Ex.fld x0 = { data := #[] : ByteArray }) else false) then decide (Ex.vk x0 = 0) && (decide (Ex.vn x0 = 0) && (decide (Ex.vs x0 = { data := #[] : ByteArray }) && true)) else false then decide ((↑(Ex.kids x0).length : Int) = 2) else false) then inb 0 (Ex.kids x0).length else true) then (bif (bif bif (bif decide (Ex.var x0 = { data := #[] : ByteArray }) then decide (Ex.fld x0 = { data := #[] : ByteArray }) else false) then decide (Ex.vk x0 = 0) && (decide (Ex.vn x0 = 0) && (decide (Ex.vs x0 = { data := #[] : ByteArray }) && true)) else false then decide ((↑(Ex.kids x0).length : Int) = 2) else false) then s32 (Ex.mk (Ex.kind (rd Ty.ex (Ex.kids x0) 0)) (Ex.vk (rd Ty.ex (Ex.kids x0) 0)) (Ex.vn (rd Ty.ex (Ex.kids x0) 0)) (Ex.vs (rd Ty.ex (Ex.kids x0) 0)) (Ex.var (rd Ty.ex (Ex.kids x0) 0)) (Ex.fld (rd Ty.ex (Ex.kids x0) 0)) (Ex.kids (rd Ty.ex (Ex.kids x0) 0)), IntKind.i64.wrap (x1 - 1), ()) else some ((Ty.b.dflt, ()), ())).bind fun y => bif bif bif (bif bif (bif decide (Ex.var x0 = { data := #[] : ByteArray }) then decide (Ex.fld x0 = { data := #[] : ByteArray }) else false) then decide (Ex.vk x0 = 0) && (decide (Ex.vn x0 = 0) && (decide (Ex.vs x0 = { data := #[] : ByteArray }) && true)) else false then decide ((↑(Ex.kids x0).length : Int) = 2) else false) then y.fst.fst else false then inb 1 (Ex.kids x0).length else true then (bif bif (bif bif (bif decide (Ex.var x0 = { data := #[] : ByteArray }) then decide (Ex.fld x0 = { data := #[] : ByteArray }) else false) then decide (Ex.vk x0 = 0) && (decide (Ex.vn x0 = 0) && (decide (Ex.vs x0 = { data := #[] : ByteArray }) && true)) else false then decide ((↑(Ex.kids x0).length : Int) = 2) else false) then y.fst.fst else false then s32 (Ex.mk (Ex.kind (rd Ty.ex (Ex.kids x0) 1)) (Ex.vk (rd Ty.ex (Ex.kids x0) 1)) (Ex.vn (rd Ty.ex (Ex.kids x0) 1)) (Ex.vs (rd Ty.ex (Ex.kids x0) 1)) (Ex.var (rd Ty.ex (Ex.kids x0) 1)) (Ex.fld (rd Ty.ex (Ex.kids x0) 1)) (Ex.kids (rd Ty.ex (Ex.kids x0) 1)), IntKind.i64.wrap (x1 - 1), ()) else some ((Ty.b.dflt, ()), ())).bind fun y_1 => some ((bif bif (bif bif (bif decide (Ex.var x0 = { data := #[] : ByteArray }) then decide (Ex.fld x0 = { data := #[] : ByteArray }) else false) then decide (Ex.vk x0 = 0) && (decide (Ex.vn x0 = 0) && (decide (Ex.vs x0 = { data := #[] : ByteArray }) && true)) else false then decide ((↑(Ex.kids x0).length : Int) = 2) else false) then y.fst.fst else false then y_1.fst.fst else false, ()), ()) else none else none else some ((false, ()), ())) := by kernel_rfl
theorem E22_0_eq (k j : Nat) (x1f0 : Ty.den T25) (x3 : List (ByteArray × Int)) (x10 : Ty.den T22) (x11 : Ty.den T3) (x12 : Ty.den T3) : E22_0 k (j + 1) ((x1f0, ()), x3, x10, x11, x12, ()) = (
  bif decide (x12 < x11) then
  bif inb x12 (List.length x10) then
    (bif
            !decide
                (1 <
                  match
                    mpGet (rd (Ty.b.p (Ty.s.l.p (Ty.s.p (Ty.i IntKind.i64)))) x10 x12).snd.snd.fst
                      (mpPut (rd (Ty.b.p (Ty.s.l.p (Ty.s.p (Ty.i IntKind.i64)))) x10 x12).snd.snd.fst
                        (IntKind.i64.wrap
                          ((match mpGet (rd (Ty.b.p (Ty.s.l.p (Ty.s.p (Ty.i IntKind.i64)))) x10 x12).snd.snd.fst x3 with
                            | some n => n
                            | none => 0) +
                            1))
                        x3) with
                  | some n => n
                  | none => 0) then
          F31 k (rd (Ty.b.p (Ty.s.l.p (Ty.s.p (Ty.i IntKind.i64)))) x10 x12, x12, ())
        else some ((Ty.b.dflt, ()), ())).bind
      fun y =>
      bif
          bif
              decide
                (1 <
                  match
                    mpGet (rd (Ty.b.p (Ty.s.l.p (Ty.s.p (Ty.i IntKind.i64)))) x10 x12).snd.snd.fst
                      (mpPut (rd (Ty.b.p (Ty.s.l.p (Ty.s.p (Ty.i IntKind.i64)))) x10 x12).snd.snd.fst
                        (IntKind.i64.wrap
                          ((match mpGet (rd (Ty.b.p (Ty.s.l.p (Ty.s.p (Ty.i IntKind.i64)))) x10 x12).snd.snd.fst x3 with
                            | some n => n
                            | none => 0) +
                            1))
                        x3) with
                  | some n => n
                  | none => 0) then
            true
          else !y.fst.fst then
        some (Sum.inr (Sum.inl (false, ())))
      else
        E22_0 k j
          ((x1f0, ()),
            mpPut (rd (Ty.b.p (Ty.s.l.p (Ty.s.p (Ty.i IntKind.i64)))) x10 x12).snd.snd.fst
              (IntKind.i64.wrap
                ((match mpGet (rd (Ty.b.p (Ty.s.l.p (Ty.s.p (Ty.i IntKind.i64)))) x10 x12).snd.snd.fst x3 with
                  | some n => n
                  | none => 0) +
                  1))
              x3,
            x10, x11, IntKind.i64.wrap (x12 + 1), ())
  else none
  else some (Sum.inl ((x1f0, ()), ()))) := by kernel_rfl
theorem E22_1_eq (k j : Nat) (x1f0 : Ty.den T25) (x35 : Ty.den T23) (x36 : Ty.den T3) (x37 : Ty.den T3) : E22_1 k (j + 1) ((x1f0, ()), x35, x36, x37, ()) = (
  let t0 : Bool := (bif decide ((rd ((Ty.i IntKind.i64).p (Ty.ex.p Ty.ex)) x35 x37).fst < 1) then true else decide (6 < (rd ((Ty.i IntKind.i64).p (Ty.ex.p Ty.ex)) x35 x37).fst));
  bif decide (x37 < x36) then bif inb x37 (List.length x35) then (bif !t0 then F32 k (Ex.mk (Ex.kind (rd ((Ty.i IntKind.i64).p (Ty.ex.p Ty.ex)) x35 x37).snd.fst) (Ex.vk (rd ((Ty.i IntKind.i64).p (Ty.ex.p Ty.ex)) x35 x37).snd.fst) (Ex.vn (rd ((Ty.i IntKind.i64).p (Ty.ex.p Ty.ex)) x35 x37).snd.fst) (Ex.vs (rd ((Ty.i IntKind.i64).p (Ty.ex.p Ty.ex)) x35 x37).snd.fst) (Ex.var (rd ((Ty.i IntKind.i64).p (Ty.ex.p Ty.ex)) x35 x37).snd.fst) (Ex.fld (rd ((Ty.i IntKind.i64).p (Ty.ex.p Ty.ex)) x35 x37).snd.fst) (Ex.kids (rd ((Ty.i IntKind.i64).p (Ty.ex.p Ty.ex)) x35 x37).snd.fst), 6, ()) else some ((Ty.b.dflt, ()), ())).bind fun y => (bif !bif t0 then true else !y.fst.fst then F32 k (Ex.mk (Ex.kind (rd ((Ty.i IntKind.i64).p (Ty.ex.p Ty.ex)) x35 x37).snd.snd) (Ex.vk (rd ((Ty.i IntKind.i64).p (Ty.ex.p Ty.ex)) x35 x37).snd.snd) (Ex.vn (rd ((Ty.i IntKind.i64).p (Ty.ex.p Ty.ex)) x35 x37).snd.snd) (Ex.vs (rd ((Ty.i IntKind.i64).p (Ty.ex.p Ty.ex)) x35 x37).snd.snd) (Ex.var (rd ((Ty.i IntKind.i64).p (Ty.ex.p Ty.ex)) x35 x37).snd.snd) (Ex.fld (rd ((Ty.i IntKind.i64).p (Ty.ex.p Ty.ex)) x35 x37).snd.snd) (Ex.kids (rd ((Ty.i IntKind.i64).p (Ty.ex.p Ty.ex)) x35 x37).snd.snd), 6, ()) else some ((Ty.b.dflt, ()), ())).bind fun y_1 => bif bif bif t0 then true else !y.fst.fst then true else !y_1.fst.fst then some (Sum.inr (Sum.inl (false, ()))) else E22_1 k j ((x1f0, ()), x35, x36, IntKind.i64.wrap (x37 + 1), ()) else none else some (Sum.inl ((x1f0, ()), ()))) := by kernel_rfl
theorem F22_eq (k : Nat) (x0 : Ty.den T25) : F22 k (x0, ()) = (
(E22_0 k k ((x0, ()), [], x0.fst, (↑(List.length x0.fst) : Int), 0, ())).bind fun y =>
  match y with
  | Sum.inl y =>
    (E22_1 k k ((y.fst.fst, ()), y.fst.fst.snd.fst, (↑(List.length y.fst.fst.snd.fst) : Int), 0, ())).bind fun y =>
      match y with
      | Sum.inl y => bif decide ((↑(List.length y.fst.fst.fst) : Int) = 0) then bif decide ((↑(List.length y.fst.fst.fst) : Int) = 0) then some ((false, ()), ()) else bif decide (y.fst.fst.snd.snd.fst < 0) then bif decide (y.fst.fst.snd.snd.fst < 0) then some ((false, ()), ()) else (bif !decide (y.fst.fst.snd.snd.snd.fst = { data := #[] : ByteArray }) then F33 k (y.fst.fst.snd.snd.snd.fst, ()) else some ((Ty.b.dflt, ()), ())).bind fun y_1 => some ((bif decide (y.fst.fst.snd.snd.snd.fst = { data := #[] : ByteArray }) then true else y_1.fst.fst, ()), ()) else bif decide (1099511627776 < y.fst.fst.snd.snd.fst) then bif decide (1099511627776 < y.fst.fst.snd.snd.fst) then some ((false, ()), ()) else (bif !decide (y.fst.fst.snd.snd.snd.fst = { data := #[] : ByteArray }) then F33 k (y.fst.fst.snd.snd.snd.fst, ()) else some ((Ty.b.dflt, ()), ())).bind fun y_1 => some ((bif decide (y.fst.fst.snd.snd.snd.fst = { data := #[] : ByteArray }) then true else y_1.fst.fst, ()), ()) else bif decide (y.fst.fst.snd.snd.snd.snd < 1) then bif decide (y.fst.fst.snd.snd.snd.snd < 1) then some ((false, ()), ()) else (bif !decide (y.fst.fst.snd.snd.snd.fst = { data := #[] : ByteArray }) then F33 k (y.fst.fst.snd.snd.snd.fst, ()) else some ((Ty.b.dflt, ()), ())).bind fun y_1 => some ((bif decide (y.fst.fst.snd.snd.snd.fst = { data := #[] : ByteArray }) then true else y_1.fst.fst, ()), ()) else bif decide (3 < y.fst.fst.snd.snd.snd.snd) then some ((false, ()), ()) else (bif !decide (y.fst.fst.snd.snd.snd.fst = { data := #[] : ByteArray }) then F33 k (y.fst.fst.snd.snd.snd.fst, ()) else some ((Ty.b.dflt, ()), ())).bind fun y_1 => some ((bif decide (y.fst.fst.snd.snd.snd.fst = { data := #[] : ByteArray }) then true else y_1.fst.fst, ()), ()) else bif decide (6 < (↑(List.length y.fst.fst.fst) : Int)) then bif decide (6 < (↑(List.length y.fst.fst.fst) : Int)) then some ((false, ()), ()) else bif decide (y.fst.fst.snd.snd.fst < 0) then bif decide (y.fst.fst.snd.snd.fst < 0) then some ((false, ()), ()) else (bif !decide (y.fst.fst.snd.snd.snd.fst = { data := #[] : ByteArray }) then F33 k (y.fst.fst.snd.snd.snd.fst, ()) else some ((Ty.b.dflt, ()), ())).bind fun y_1 => some ((bif decide (y.fst.fst.snd.snd.snd.fst = { data := #[] : ByteArray }) then true else y_1.fst.fst, ()), ()) else bif decide (1099511627776 < y.fst.fst.snd.snd.fst) then bif decide (1099511627776 < y.fst.fst.snd.snd.fst) then some ((false, ()), ()) else (bif !decide (y.fst.fst.snd.snd.snd.fst = { data := #[] : ByteArray }) then F33 k (y.fst.fst.snd.snd.snd.fst, ()) else some ((Ty.b.dflt, ()), ())).bind fun y_1 => some ((bif decide (y.fst.fst.snd.snd.snd.fst = { data := #[] : ByteArray }) then true else y_1.fst.fst, ()), ()) else bif decide (y.fst.fst.snd.snd.snd.snd < 1) then bif decide (y.fst.fst.snd.snd.snd.snd < 1) then some ((false, ()), ()) else (bif !decide (y.fst.fst.snd.snd.snd.fst = { data := #[] : ByteArray }) then F33 k (y.fst.fst.snd.snd.snd.fst, ()) else some ((Ty.b.dflt, ()), ())).bind fun y_1 => some ((bif decide (y.fst.fst.snd.snd.snd.fst = { data := #[] : ByteArray }) then true else y_1.fst.fst, ()), ()) else bif decide (3 < y.fst.fst.snd.snd.snd.snd) then some ((false, ()), ()) else (bif !decide (y.fst.fst.snd.snd.snd.fst = { data := #[] : ByteArray }) then F33 k (y.fst.fst.snd.snd.snd.fst, ()) else some ((Ty.b.dflt, ()), ())).bind fun y_1 => some ((bif decide (y.fst.fst.snd.snd.snd.fst = { data := #[] : ByteArray }) then true else y_1.fst.fst, ()), ()) else bif decide (8 < (↑(List.length y.fst.fst.snd.fst) : Int)) then some ((false, ()), ()) else bif decide (y.fst.fst.snd.snd.fst < 0) then bif decide (y.fst.fst.snd.snd.fst < 0) then some ((false, ()), ()) else (bif !decide (y.fst.fst.snd.snd.snd.fst = { data := #[] : ByteArray }) then F33 k (y.fst.fst.snd.snd.snd.fst, ()) else some ((Ty.b.dflt, ()), ())).bind fun y_1 => some ((bif decide (y.fst.fst.snd.snd.snd.fst = { data := #[] : ByteArray }) then true else y_1.fst.fst, ()), ()) else bif decide (1099511627776 < y.fst.fst.snd.snd.fst) then bif decide (1099511627776 < y.fst.fst.snd.snd.fst) then some ((false, ()), ()) else (bif !decide (y.fst.fst.snd.snd.snd.fst = { data := #[] : ByteArray }) then F33 k (y.fst.fst.snd.snd.snd.fst, ()) else some ((Ty.b.dflt, ()), ())).bind fun y_1 => some ((bif decide (y.fst.fst.snd.snd.snd.fst = { data := #[] : ByteArray }) then true else y_1.fst.fst, ()), ()) else bif decide (y.fst.fst.snd.snd.snd.snd < 1) then bif decide (y.fst.fst.snd.snd.snd.snd < 1) then some ((false, ()), ()) else (bif !decide (y.fst.fst.snd.snd.snd.fst = { data := #[] : ByteArray }) then F33 k (y.fst.fst.snd.snd.snd.fst, ()) else some ((Ty.b.dflt, ()), ())).bind fun y_1 => some ((bif decide (y.fst.fst.snd.snd.snd.fst = { data := #[] : ByteArray }) then true else y_1.fst.fst, ()), ()) else bif decide (3 < y.fst.fst.snd.snd.snd.snd) then some ((false, ()), ()) else (bif !decide (y.fst.fst.snd.snd.snd.fst = { data := #[] : ByteArray }) then F33 k (y.fst.fst.snd.snd.snd.fst, ()) else some ((Ty.b.dflt, ()), ())).bind fun y_1 => some ((bif decide (y.fst.fst.snd.snd.snd.fst = { data := #[] : ByteArray }) then true else y_1.fst.fst, ()), ())
      | Sum.inr y =>
        match y with
        | Sum.inl y => some ((y.fst, ()), ())
        | Sum.inr y => nomatch y
  | Sum.inr y =>
    match y with
    | Sum.inl y => some ((y.fst, ()), ())
    | Sum.inr y => nomatch y) := by kernel_rfl
theorem F35_eq (k : Nat) (x0 : Ty.den T38) : F35 k (x0, ()) = (
  some ((bif !x0.fst then !decide (x0.snd.snd.snd = 3) else false, ()), ())) := by kernel_rfl
theorem E58_0_eq (k j : Nat) (x0 : Ty.den T22) (x7 : Ty.den T3) (x8 : Ty.den T3) : E58_0 k (j + 1) (x0, (), x7, x8, ()) = (
  bif decide (x8 < x7) then bif inb x8 (List.length x0) then (F35 k (rd (Ty.b.p (Ty.s.l.p (Ty.s.p (Ty.i IntKind.i64)))) x0 x8, ())).bind fun y => bif y.fst.fst then some (Sum.inr (Sum.inl (x8, ()))) else E58_0 k j (x0, (), x7, IntKind.i64.wrap (x8 + 1), ()) else none else some (Sum.inl ())) := by kernel_rfl
theorem F58_eq (k : Nat) (x0 : Ty.den T22) : F58 k (x0, (), ()) = (
(E58_0 k k (x0, (), (↑(List.length x0) : Int), 0, ())).bind fun y =>
  match y with
  | Sum.inl y => some ((-1, ()), ())
  | Sum.inr y =>
    match y with
    | Sum.inl y => some ((y.fst, ()), ())
    | Sum.inr y => nomatch y) := by kernel_rfl
theorem F34_eq (k : Nat) (x0 : Ty.den T22) : F34 k (x0, (), ()) = (
(F58 k (x0, (), ())).bind fun y => some ((decide (0 ≤ y.fst.fst), ()), ())) := by kernel_rfl
theorem E23_0_eq (k j : Nat) (x0 : Ty.den T22) (x4f0 : Ty.den T36) (x5f0 : List (Ty.den T3)) (x5f1 : List (Ty.den T3)) (x5f2 : Ty.den T4) (x6 : Ty.den T3) : E23_0 k (j + 1) (x0, (x4f0, ()), (x5f0, x5f1, x5f2, ()), x6, ()) = (
  bif decide (x6 < (↑(List.length x0) : Int)) then bif inb x6 (List.length x0) then bif (rd (Ty.b.p (Ty.s.l.p (Ty.s.p (Ty.i IntKind.i64)))) x0 x6).fst then bif decide ((x5f1.length + [x6].length) * (7 + 1) ≤ 140737488355328) then E23_0 k j (x0, (x4f0, ()), (x5f0, x5f1 ++ [x6], x5f2, ()), IntKind.i64.wrap (x6 + 1), ()) else none else bif inb x6 (List.length x0) then bif decide ((rd (Ty.b.p (Ty.s.l.p (Ty.s.p (Ty.i IntKind.i64)))) x0 x6).snd.snd.snd = 3) then bif decide ((x5f0.length + [x6].length) * (7 + 1) ≤ 140737488355328) then E23_0 k j (x0, (x4f0, ()), (x5f0 ++ [x6], x5f1, x5f2, ()), IntKind.i64.wrap (x6 + 1), ()) else none else bif decide ((x5f0.length + [x6].length) * (7 + 1) ≤ 140737488355328) then some (Sum.inl ((x4f0, ()), (x5f0 ++ [x6], x5f1, x5f2, ()), ())) else none else none else none else some (Sum.inl ((x4f0, ()), (x5f0, x5f1, x5f2, ()), ()))) := by kernel_rfl
theorem F23_eq (k : Nat) (x0 : Ty.den T22) (x1 : Ty.den T3) : F23 k (x0, x1, ()) = (
  bif inr (IntKind.i64.wrap (x1 + 1)) (↑(List.length x0) : Int) (List.length x0) then
  (F34 k (ext (IntKind.i64.wrap (x1 + 1)) (↑(List.length x0) : Int) x0, (), ())).bind fun y =>
    bif inb x1 (List.length x0) then
      bif decide ((rd (Ty.b.p (Ty.s.l.p (Ty.s.p (Ty.i IntKind.i64)))) x0 x1).snd.snd.snd = 2) then
        (E23_0 k k (x0, (([], [], false), ()), ([x1], [], !y.fst.fst, ()), IntKind.i64.wrap (x1 + 1), ())).bind fun y =>
          match y with
          | Sum.inl y => some (((y.snd.fst.fst, y.snd.fst.snd.fst, y.snd.fst.snd.snd.fst), ()), ())
          | Sum.inr y => nomatch y
      else
        (E23_0 k k (x0, (([], [], false), ()), ([], [], !y.fst.fst, ()), IntKind.i64.wrap (x1 + 1), ())).bind fun y =>
          match y with
          | Sum.inl y => some (((y.snd.fst.fst, y.snd.fst.snd.fst, y.snd.fst.snd.snd.fst), ()), ())
          | Sum.inr y => nomatch y
    else none
  else none) := by kernel_rfl
theorem E13_0_eq (k j : Nat) (x1f0 : Ty.den T25) (x3 : List (Ty.den T36)) (x13 : Ty.den T3) (x14 : Ty.den T3) : E13_0 k (j + 1) ((x1f0, ()), x3, x13, x14, ()) = (
  bif decide (x14 < x13) then (F23 k (x1f0.fst, x14, ())).bind fun y => bif decide ((x3.length + [y.fst.fst].length) * (55 + 1) ≤ 140737488355328) then E13_0 k j ((x1f0, ()), x3 ++ [y.fst.fst], x13, IntKind.i64.wrap (x14 + 1), ()) else none else some (Sum.inl (x3, ()))) := by kernel_rfl
theorem F13_eq (k : Nat) (x0 : Ty.den T25) : F13 k (x0, ()) = (
(F22 k (x0, ())).bind fun y =>
  bif !y.fst.fst then some (([], ()), ())
  else
    (E13_0 k k ((x0, ()), [([0], [], false)], (↑(List.length x0.fst) : Int), 0, ())).bind fun y =>
      match y with
      | Sum.inl y => some ((y.fst, ()), ())
      | Sum.inr y => nomatch y) := by kernel_rfl
theorem E20_0_eq (k j : Nat) (x0 : Ty.den T34) (x1 : Ty.den T34) (x5 : Ty.den T3) : E20_0 k (j + 1) (x0, x1, x5, ()) = (
  bif decide (x5 < (↑(List.length x0) : Int)) then bif inb x5 (List.length x0) then bif inb x5 (List.length x1) then bif !decide (rd (Ty.i IntKind.i64) x0 x5 = rd (Ty.i IntKind.i64) x1 x5) then some (Sum.inr (Sum.inl (false, ()))) else E20_0 k j (x0, x1, IntKind.i64.wrap (x5 + 1), ()) else none else none else some (Sum.inl ())) := by kernel_rfl
theorem F20_eq (k : Nat) (x0 : Ty.den T34) (x1 : Ty.den T34) : F20 k (x0, x1, ()) = (
  bif !decide ((↑(List.length x0) : Int) = (↑(List.length x1) : Int)) then some ((false, ()), ())
  else
  (E20_0 k k (x0, x1, 0, ())).bind fun y =>
    match y with
    | Sum.inl y => some ((true, ()), ())
    | Sum.inr y =>
      match y with
      | Sum.inl y => some ((y.fst, ()), ())
      | Sum.inr y => nomatch y) := by kernel_rfl
theorem E36_0_eq (k j : Nat) (x0 : Ty.den T26) (x1 : Ty.den T9) (x7 : Ty.den T3) (x8 : Ty.den T3) : E36_0 k (j + 1) (x0, x1, x7, x8, ()) = (
  bif decide (x8 < x7) then bif inb x8 (List.length x0) then bif decide (x1 = rd Ty.s x0 x8) then some (Sum.inr (Sum.inl (x8, ()))) else E36_0 k j (x0, x1, x7, IntKind.i64.wrap (x8 + 1), ()) else none else some (Sum.inl ())) := by kernel_rfl
theorem F36_eq (k : Nat) (x0 : Ty.den T26) (x1 : Ty.den T9) : F36 k (x0, x1, ()) = (
(E36_0 k k (x0, x1, (↑(List.length x0) : Int), 0, ())).bind fun y =>
  match y with
  | Sum.inl y => some ((-1, ()), ())
  | Sum.inr y =>
    match y with
    | Sum.inl y => some ((y.fst, ()), ())
    | Sum.inr y => nomatch y) := by kernel_rfl
theorem F25_eq (k : Nat) (x0 : Ty.den T26) (x1 : Ty.den T9) : F25 k (x0, x1, ()) = (
(F36 k (x0, x1, ())).bind fun y => some ((decide (0 ≤ y.fst.fst), ()), ())) := by kernel_rfl
theorem E15_0_0_0_eq (k j : Nat) (x2f0 : Ty.den T25) (x5 : Ty.den T31) (x6 : Ty.den T3) (x8 : Ty.den T9) (x9 : Ty.den T3) (x18 : Ty.den T26) (x19 : Ty.den T3) (x20 : Ty.den T3) (x24 : Ty.den T31) (x25 : Ty.den T3) (x26 : Ty.den T3) (x37 : Ty.den T34) (x38 : Ty.den T3) (x39 : Ty.den T3) : E15_0_0_0 k (j + 1) ((x2f0, ()), x5, x6, x8, x9, x18, x19, x20, x24, x25, x26, x37, x38, x39, ()) = (
  bif decide (x39 < x38) then bif inb x39 (List.length x37) then bif inb (rd (Ty.i IntKind.i64) x37 x39) (List.length x2f0.fst) then (F25 k ((rd (Ty.b.p (Ty.s.l.p (Ty.s.p (Ty.i IntKind.i64)))) x2f0.fst (rd (Ty.i IntKind.i64) x37 x39)).snd.fst, x8, ())).bind fun y => bif y.fst.fst then bif !decide (IntKind.i64.wrap (rd (Ty.i IntKind.i64) x37 x39 + 1) < 0) then E15_0_0_0 k j ((x2f0, ()), x5, x6, x8, IntKind.i64.wrap (↑(BitVec.ofInt IntKind.i64.bits x9 ||| BitVec.ofInt IntKind.i64.bits (IntKind.i64.wrap (1 * 2 ^ min (IntKind.i64.wrap (rd (Ty.i IntKind.i64) x37 x39 + 1)).toNat IntKind.i64.bits))).toNat : Int), x18, x19, x20, x24, x25, x26, x37, x38, IntKind.i64.wrap (x39 + 1), ()) else none else E15_0_0_0 k j ((x2f0, ()), x5, x6, x8, x9, x18, x19, x20, x24, x25, x26, x37, x38, IntKind.i64.wrap (x39 + 1), ()) else none else none else some (Sum.inl ((x2f0, ()), x5, x6, x8, x9, x18, x19, x20, x24, x25, x26, ()))) := by kernel_rfl
theorem E15_0_0_eq (k j : Nat) (x2f0 : Ty.den T25) (x5 : Ty.den T31) (x6 : Ty.den T3) (x8 : Ty.den T9) (x9 : Ty.den T3) (x18 : Ty.den T26) (x19 : Ty.den T3) (x20 : Ty.den T3) (x24 : Ty.den T31) (x25 : Ty.den T3) (x26 : Ty.den T3) : E15_0_0 k (j + 1) ((x2f0, ()), x5, x6, x8, x9, x18, x19, x20, x24, x25, x26, ()) = (
  bif decide (x26 < x25) then
  bif inb x26 (List.length x24) then
    bif !decide (x26 < 0) then
      bif decide (IntKind.i64.wrap (↑(BitVec.ofInt IntKind.i64.bits (Int.fdiv x6 (2 ^ min (Int.toNat x26) IntKind.i64.bits)) &&& BitVec.ofInt IntKind.i64.bits 1).toNat : Int) = 0) then E15_0_0 k j ((x2f0, ()), x5, x6, x8, x9, x18, x19, x20, x24, x25, IntKind.i64.wrap (x26 + 1), ())
      else
        (E15_0_0_0 k k ((x2f0, ()), x5, x6, x8, x9, x18, x19, x20, x24, x25, x26, (rd ((Ty.i IntKind.i64).l.p ((Ty.i IntKind.i64).l.p Ty.b)) x24 x26).fst, (↑(List.length (rd ((Ty.i IntKind.i64).l.p ((Ty.i IntKind.i64).l.p Ty.b)) x24 x26).fst) : Int), 0, ())).bind fun y =>
          match y with
          | Sum.inl y => E15_0_0 k j ((y.fst.fst, ()), y.snd.fst, y.snd.snd.fst, y.snd.snd.snd.fst, y.snd.snd.snd.snd.fst, y.snd.snd.snd.snd.snd.fst, y.snd.snd.snd.snd.snd.snd.fst, y.snd.snd.snd.snd.snd.snd.snd.fst, y.snd.snd.snd.snd.snd.snd.snd.snd.fst, y.snd.snd.snd.snd.snd.snd.snd.snd.snd.fst, IntKind.i64.wrap (y.snd.snd.snd.snd.snd.snd.snd.snd.snd.snd.fst + 1), ())
          | Sum.inr y => nomatch y
    else none
  else none
  else some (Sum.inl ((x2f0, ()), x5, x9, x18, x19, x20, ()))) := by kernel_rfl
theorem E15_0_eq (k j : Nat) (x2f0 : Ty.den T25) (x5 : Ty.den T31) (x6 : Ty.den T3) (x18 : Ty.den T26) (x19 : Ty.den T3) (x20 : Ty.den T3) : E15_0 k (j + 1) ((x2f0, ()), x5, x6, x18, x19, x20, ()) = (
  bif decide (x20 < x19) then
  bif inb x20 (List.length x18) then
    (E15_0_0 k k ((x2f0, ()), x5, x6, rd Ty.s x18 x20, 0, x18, x19, x20, x5, (↑(List.length x5) : Int), 0, ())).bind fun y =>
      match y with
      | Sum.inl y => E15_0 k j ((y.fst.fst, ()), y.snd.fst, y.snd.snd.fst, y.snd.snd.snd.fst, y.snd.snd.snd.snd.fst, IntKind.i64.wrap (y.snd.snd.snd.snd.snd.fst + 1), ())
      | Sum.inr y => nomatch y
  else none
  else some (Sum.inl (x5, x6, ()))) := by kernel_rfl
theorem E15_1_eq (k j : Nat) (x6 : Ty.den T3) (x60 : Ty.den T31) (x61 : Ty.den T3) (x62 : Ty.den T3) : E15_1 k (j + 1) (x6, x60, x61, x62, ()) = (
  bif decide (x62 < x61) then bif inb x62 (List.length x60) then bif !decide (x62 < 0) then bif bif decide (IntKind.i64.wrap (↑(BitVec.ofInt IntKind.i64.bits (Int.fdiv x6 (2 ^ min (Int.toNat x62) IntKind.i64.bits)) &&& BitVec.ofInt IntKind.i64.bits 1).toNat : Int) = 1) then (rd ((Ty.i IntKind.i64).l.p ((Ty.i IntKind.i64).l.p Ty.b)) x60 x62).snd.snd else false then some (Sum.inr (Sum.inl (true, ()))) else E15_1 k j (x6, x60, x61, IntKind.i64.wrap (x62 + 1), ()) else none else none else some (Sum.inl ())) := by kernel_rfl
theorem F15_eq (k : Nat) (x0 : Ty.den T25) (x1 : Ty.den T26) : F15 k (x0, x1, ()) = (
(F13 k (x0, ())).bind fun y =>
  (E15_0 k k ((x0, ()), y.fst.fst, 1, x1, (↑(List.length x1) : Int), 0, ())).bind fun y =>
    match y with
    | Sum.inl y =>
      (E15_1 k k (y.snd.fst, y.fst, (↑(List.length y.fst) : Int), 0, ())).bind fun y =>
        match y with
        | Sum.inl y => some ((false, ()), ())
        | Sum.inr y =>
          match y with
          | Sum.inl y => some ((y.fst, ()), ())
          | Sum.inr y => nomatch y
    | Sum.inr y => nomatch y) := by kernel_rfl
theorem E21_0_eq (k j : Nat) (s21 : shsDen I21 → Option (shsDen O21 × shsDen (shsUpd I21))) (x1 : Ty.den T3) (x2f0 : Ty.den T50) (x5 : Ty.den T3) (x6 : Ty.den T3) : E21_0 k s21 (j + 1) (x1, (x2f0, ()), x5, x6, ()) = (
  bif bif decide (x6 < (↑(Ex.kids x2f0).length : Int)) then decide (x5 < x1) else false then bif inb x6 (Ex.kids x2f0).length then (s21 (Ex.mk (Ex.kind (rd Ty.ex (Ex.kids x2f0) x6)) (Ex.vk (rd Ty.ex (Ex.kids x2f0) x6)) (Ex.vn (rd Ty.ex (Ex.kids x2f0) x6)) (Ex.vs (rd Ty.ex (Ex.kids x2f0) x6)) (Ex.var (rd Ty.ex (Ex.kids x2f0) x6)) (Ex.fld (rd Ty.ex (Ex.kids x2f0) x6)) (Ex.kids (rd Ty.ex (Ex.kids x2f0) x6)), IntKind.i64.wrap (x1 - x5), ())).bind fun y => E21_0 k s21 j (x1, (Ex.mk (Ex.kind x2f0) (Ex.vk x2f0) (Ex.vn x2f0) (Ex.vs x2f0) (Ex.var x2f0) (Ex.fld x2f0) (Ex.kids x2f0), ()), IntKind.i64.wrap (x5 + y.fst.fst), IntKind.i64.wrap (x6 + 1), ()) else none else some (Sum.inl (x5, ()))) := by kernel_rfl
theorem G21_eq (k : Nat) (s21 : shsDen I21 → Option (shsDen O21 × shsDen (shsUpd I21))) (x0 : Ty.den T50) (x1 : Ty.den T3) : G21 k s21 (x0, x1, ()) = (
(E21_0 k s21 k (x1, (Ex.mk (Ex.kind x0) (Ex.vk x0) (Ex.vn x0) (Ex.vs x0) (Ex.var x0) (Ex.fld x0) (Ex.kids x0), ()), IntKind.i64.wrap (IntKind.i64.wrap (IntKind.i64.wrap (1 + bif false then bif decide ((↑(Ex.var x0).size : Int) < 3000) then 3000 else (↑(Ex.var x0).size : Int) else bif decide (3000 < (↑(Ex.var x0).size : Int)) then 3000 else (↑(Ex.var x0).size : Int)) + bif false then bif decide ((↑(Ex.fld x0).size : Int) < 3000) then 3000 else (↑(Ex.fld x0).size : Int) else bif decide (3000 < (↑(Ex.fld x0).size : Int)) then 3000 else (↑(Ex.fld x0).size : Int)) + bif false then bif decide ((↑(Ex.vs x0).size : Int) < 3000) then 3000 else (↑(Ex.vs x0).size : Int) else bif decide (3000 < (↑(Ex.vs x0).size : Int)) then 3000 else (↑(Ex.vs x0).size : Int)), 0, ())).bind fun y =>
  match y with
  | Sum.inl y => some ((y.fst, ()), ())
  | Sum.inr y => nomatch y) := by kernel_rfl
theorem E10_0_0_eq (k j : Nat) (x1f0 : Ty.den T25) (x3 : Ty.den T3) (x4 : Ty.den T3) (x5 : Ty.den T3) : E10_0_0 k (j + 1) ((x1f0, ()), x3, x4, x5, ()) = (
  bif inb x4 (List.length x1f0.fst) then bif bif decide (x5 < (↑(List.length (rd (Ty.b.p (Ty.s.l.p (Ty.s.p (Ty.i IntKind.i64)))) x1f0.fst x4).snd.fst) : Int)) then decide (x3 < 3000) else false then bif inb x4 (List.length x1f0.fst) then bif inb x5 (List.length (rd (Ty.b.p (Ty.s.l.p (Ty.s.p (Ty.i IntKind.i64)))) x1f0.fst x4).snd.fst) then E10_0_0 k j ((x1f0, ()), IntKind.i64.wrap (x3 + bif false then bif decide ((↑(ByteArray.size (rd Ty.s (rd (Ty.b.p (Ty.s.l.p (Ty.s.p (Ty.i IntKind.i64)))) x1f0.fst x4).snd.fst x5)) : Int) < 3000) then 3000 else (↑(ByteArray.size (rd Ty.s (rd (Ty.b.p (Ty.s.l.p (Ty.s.p (Ty.i IntKind.i64)))) x1f0.fst x4).snd.fst x5)) : Int) else bif decide (3000 < (↑(ByteArray.size (rd Ty.s (rd (Ty.b.p (Ty.s.l.p (Ty.s.p (Ty.i IntKind.i64)))) x1f0.fst x4).snd.fst x5)) : Int)) then 3000 else (↑(ByteArray.size (rd Ty.s (rd (Ty.b.p (Ty.s.l.p (Ty.s.p (Ty.i IntKind.i64)))) x1f0.fst x4).snd.fst x5)) : Int)), x4, IntKind.i64.wrap (x5 + 1), ()) else none else none else some (Sum.inl ((x1f0, ()), x3, x4, ())) else none) := by kernel_rfl
theorem F10_eq (k : Nat) (x0 : Ty.den T25) : F10 k (x0, ()) = (
(E10_0 k k ((x0, ()), IntKind.i64.wrap (IntKind.i64.wrap ((↑(List.length x0.fst) : Int) + (↑(List.length x0.snd.fst) : Int)) + bif false then bif decide ((↑(ByteArray.size x0.snd.snd.snd.fst) : Int) < 3000) then 3000 else (↑(ByteArray.size x0.snd.snd.snd.fst) : Int) else bif decide (3000 < (↑(ByteArray.size x0.snd.snd.snd.fst) : Int)) then 3000 else (↑(ByteArray.size x0.snd.snd.snd.fst) : Int)), 0, ())).bind fun y =>
  match y with
  | Sum.inl y =>
    (E10_1 k k ((y.fst.fst, ()), y.snd.fst, 0, ())).bind fun y =>
      match y with
      | Sum.inl y => some ((decide (3000 ≤ y.fst), ()), ())
      | Sum.inr y => nomatch y
  | Sum.inr y => nomatch y) := by kernel_rfl
theorem E11_0_eq (k j : Nat) (x0 : Ty.den T26) (x3 : Ty.den T3) (x4 : Ty.den T3) : E11_0 k (j + 1) (x0, x3, x4, ()) = (
  bif bif decide (x4 < (↑(List.length x0) : Int)) then decide (x3 < 3000) else false then bif inb x4 (List.length x0) then E11_0 k j (x0, IntKind.i64.wrap (x3 + bif false then bif decide ((↑(ByteArray.size (rd Ty.s x0 x4)) : Int) < 3000) then 3000 else (↑(ByteArray.size (rd Ty.s x0 x4)) : Int) else bif decide (3000 < (↑(ByteArray.size (rd Ty.s x0 x4)) : Int)) then 3000 else (↑(ByteArray.size (rd Ty.s x0 x4)) : Int)), IntKind.i64.wrap (x4 + 1), ()) else none else some (Sum.inl (x3, ()))) := by kernel_rfl
theorem F11_eq (k : Nat) (x0 : Ty.den T26) : F11 k (x0, ()) = (
(E11_0 k k (x0, (↑(List.length x0) : Int), 0, ())).bind fun y =>
  match y with
  | Sum.inl y => some ((decide (3000 ≤ y.fst), ()), ())
  | Sum.inr y => nomatch y) := by kernel_rfl
theorem F24_eq (k : Nat) (x0 : Ty.den T25) (x1 : Ty.den T3) : F24 k (x0, x1, ()) = (
  bif decide (x1 < 0) then some ((([0], [], false), ()), ())
  else
  bif inb x1 (List.length x0.fst) then
    bif decide ((rd (Ty.b.p (Ty.s.l.p (Ty.s.p (Ty.i IntKind.i64)))) x0.fst x1).snd.snd.snd = 2) then
      (E24_0 k k ((x0, ()), (([], [], false), ()), ([x1], [], true, ()), true, IntKind.i64.wrap (x1 + 1), ())).bind fun y =>
        match y with
        | Sum.inl y => some (((y.snd.fst.fst, y.snd.fst.snd.fst, y.snd.fst.snd.snd.fst), ()), ())
        | Sum.inr y => nomatch y
    else
      (E24_0 k k ((x0, ()), (([], [], false), ()), ([], [], true, ()), true, IntKind.i64.wrap (x1 + 1), ())).bind fun y =>
        match y with
        | Sum.inl y => some (((y.snd.fst.fst, y.snd.fst.snd.fst, y.snd.fst.snd.snd.fst), ()), ())
        | Sum.inr y => nomatch y
  else none) := by kernel_rfl
theorem E14_0_eq (k j : Nat) (x1f0 : Ty.den T25) (x3 : List (Ty.den T36)) (x4 : Ty.den T3) : E14_0 k (j + 1) ((x1f0, ()), x3, x4, ()) = (
  bif decide (x4 < (↑(List.length x1f0.fst) : Int)) then (F24 k (x1f0, x4, ())).bind fun y => bif decide ((x3.length + [y.fst.fst].length) * (55 + 1) ≤ 140737488355328) then E14_0 k j ((x1f0, ()), x3 ++ [y.fst.fst], IntKind.i64.wrap (x4 + 1), ()) else none else some (Sum.inl (x3, ()))) := by kernel_rfl
theorem F14_eq (k : Nat) (x0 : Ty.den T25) : F14 k (x0, ()) = (
(F17 k (x0, ())).bind fun y =>
  bif !y.fst.fst then some (([], ()), ())
  else
    (E14_0 k k ((x0, ()), [], -1, ())).bind fun y =>
      match y with
      | Sum.inl y => some ((y.fst, ()), ())
      | Sum.inr y => nomatch y) := by kernel_rfl
theorem F12_eq (k : Nat) (x0 : Ty.den T31) (x1 : Ty.den T31) : F12 k (x0, x1, ()) = (
  bif !decide ((↑(List.length x0) : Int) = (↑(List.length x1) : Int)) then some ((false, ()), ())
  else
  (E12_0 k k (x0, x1, 0, ())).bind fun y =>
    match y with
    | Sum.inl y => some ((true, ()), ())
    | Sum.inr y =>
      match y with
      | Sum.inl y => some ((y.fst, ()), ())
      | Sum.inr y => nomatch y) := by kernel_rfl
theorem E18_0_eq (k j : Nat) (x1 : Ty.den T9) (x2f0 : Ty.den T38) (x5 : Ty.den T3) : E18_0 k (j + 1) (x1, (x2f0, ()), x5, ()) = (
  bif decide (x5 < (↑(List.length x2f0.snd.fst) : Int)) then bif inb x5 (List.length x2f0.snd.fst) then bif decide (rd Ty.s x2f0.snd.fst x5 = x1) then some (Sum.inr (Sum.inl (true, ()))) else E18_0 k j (x1, (x2f0, ()), IntKind.i64.wrap (x5 + 1), ()) else none else some (Sum.inl ())) := by kernel_rfl
theorem F18_eq (k : Nat) (x0 : Ty.den T38) (x1 : Ty.den T9) : F18 k (x0, x1, ()) = (
(E18_0 k k (x1, (x0, ()), 0, ())).bind fun y =>
  match y with
  | Sum.inl y => some ((false, ()), ())
  | Sum.inr y =>
    match y with
    | Sum.inl y => some ((y.fst, ()), ())
    | Sum.inr y => nomatch y) := by kernel_rfl
theorem E16_0_0_0_eq (k j : Nat) (x1 : Ty.den T26) (x2f0 : Ty.den T25) (x5 : Ty.den T31) (x6 : List (Ty.den T4)) (x7 : Ty.den T3) (x8 : List (Ty.den T4)) (x9 : Ty.den T3) (x10 : Ty.den T3) : E16_0_0_0 k (j + 1) (x1, (x2f0, ()), x5, x6, x7, x8, x9, x10, ()) = (
  bif inb x9 x6.length then bif inb x9 x6.length then bif bif rd Ty.b x6 x9 then inb x9 (List.length x5) else true then bif bif rd Ty.b x6 x9 then decide (x10 < (↑(List.length (rd ((Ty.i IntKind.i64).l.p ((Ty.i IntKind.i64).l.p Ty.b)) x5 x9).fst) : Int)) else false then bif inb x9 (List.length x5) then bif inb x10 (List.length (rd ((Ty.i IntKind.i64).l.p ((Ty.i IntKind.i64).l.p Ty.b)) x5 x9).fst) then bif inb (rd (Ty.i IntKind.i64) (rd ((Ty.i IntKind.i64).l.p ((Ty.i IntKind.i64).l.p Ty.b)) x5 x9).fst x10) (List.length x2f0.fst) then bif inb x7 (List.length x1) then (F18 k (rd (Ty.b.p (Ty.s.l.p (Ty.s.p (Ty.i IntKind.i64)))) x2f0.fst (rd (Ty.i IntKind.i64) (rd ((Ty.i IntKind.i64).l.p ((Ty.i IntKind.i64).l.p Ty.b)) x5 x9).fst x10), rd Ty.s x1 x7, ())).bind fun y => bif y.fst.fst then bif inb (IntKind.i64.wrap (rd (Ty.i IntKind.i64) (rd ((Ty.i IntKind.i64).l.p ((Ty.i IntKind.i64).l.p Ty.b)) x5 x9).fst x10 + 1)) x8.length then bif inb (IntKind.i64.wrap (rd (Ty.i IntKind.i64) (rd ((Ty.i IntKind.i64).l.p ((Ty.i IntKind.i64).l.p Ty.b)) x5 x9).fst x10 + 1)) x8.length then E16_0_0_0 k j (x1, (x2f0, ()), x5, x6, x7, x8.set (IntKind.i64.wrap (rd (Ty.i IntKind.i64) (rd ((Ty.i IntKind.i64).l.p ((Ty.i IntKind.i64).l.p Ty.b)) x5 x9).fst x10 + 1)).toNat true, x9, IntKind.i64.wrap (x10 + 1), ()) else none else none else E16_0_0_0 k j (x1, (x2f0, ()), x5, x6, x7, x8, x9, IntKind.i64.wrap (x10 + 1), ()) else none else none else none else none else some (Sum.inl (x1, (x2f0, ()), x5, x6, x7, x8, x9, ())) else none else none else none) := by kernel_rfl
theorem E16_0_0_eq (k j : Nat) (x1 : Ty.den T26) (x2f0 : Ty.den T25) (x5 : Ty.den T31) (x6 : List (Ty.den T4)) (x7 : Ty.den T3) (x8 : List (Ty.den T4)) (x9 : Ty.den T3) : E16_0_0 k (j + 1) (x1, (x2f0, ()), x5, x6, x7, x8, x9, ()) = (
  bif decide (x9 < (↑(List.length x5) : Int)) then
  (E16_0_0_0 k k (x1, (x2f0, ()), x5, x6, x7, x8, x9, 0, ())).bind fun y =>
    match y with
    | Sum.inl y => E16_0_0 k j (y.fst, (y.snd.fst.fst, ()), y.snd.snd.fst, y.snd.snd.snd.fst, y.snd.snd.snd.snd.fst, y.snd.snd.snd.snd.snd.fst, IntKind.i64.wrap (y.snd.snd.snd.snd.snd.snd.fst + 1), ())
    | Sum.inr y => nomatch y
  else some (Sum.inl (x1, (x2f0, ()), x5, x7, x8, ()))) := by kernel_rfl
theorem E16_0_eq (k j : Nat) (x1 : Ty.den T26) (x2f0 : Ty.den T25) (x5 : Ty.den T31) (x6 : List (Ty.den T4)) (x7 : Ty.den T3) : E16_0 k (j + 1) (x1, (x2f0, ()), x5, x6, x7, ()) = (
  bif decide (x7 < (↑(List.length x1) : Int)) then
  bif decide (0 ≤ (↑(List.length x5) : Int)) && (decide ((↑(List.length x5) : Int) ≤ (↑(List.length x5) : Int)) && (decide ((↑(List.length x5) : Int) * (↑Try.prog.types[4].bytes : Int) ≤ 140737488355328) && decide ((↑(List.length x5) : Int) ≤ 140737488355328))) then
    (E16_0_0 k k (x1, (x2f0, ()), x5, x6, x7, List.replicate (↑(List.length x5) : Int).toNat false, 0, ())).bind fun y =>
      match y with
      | Sum.inl y => E16_0 k j (y.fst, (y.snd.fst.fst, ()), y.snd.snd.fst, y.snd.snd.snd.snd.fst, IntKind.i64.wrap (y.snd.snd.snd.fst + 1), ())
      | Sum.inr y => nomatch y
  else none
  else some (Sum.inl (x5, x6, ()))) := by kernel_rfl
theorem E16_1_eq (k j : Nat) (x5 : Ty.den T31) (x6 : List (Ty.den T4)) (x12 : Ty.den T3) : E16_1 k (j + 1) (x5, x6, x12, ()) = (
  bif decide (x12 < (↑(List.length x5) : Int)) then bif inb x12 x6.length then bif inb x12 x6.length then bif bif rd Ty.b x6 x12 then inb x12 (List.length x5) else true then bif bif rd Ty.b x6 x12 then (rd ((Ty.i IntKind.i64).l.p ((Ty.i IntKind.i64).l.p Ty.b)) x5 x12).snd.snd else false then some (Sum.inr (Sum.inl (true, ()))) else E16_1 k j (x5, x6, IntKind.i64.wrap (x12 + 1), ()) else none else none else none else some (Sum.inl ())) := by kernel_rfl
theorem F16_eq (k : Nat) (x0 : Ty.den T25) (x1 : Ty.den T26) : F16 k (x0, x1, ()) = (
(F14 k (x0, ())).bind fun y =>
  bif decide ((↑(List.length y.fst.fst) : Int) = 0) then some ((false, ()), ())
  else
    bif decide (0 ≤ (↑(List.length y.fst.fst) : Int)) && (decide ((↑(List.length y.fst.fst) : Int) ≤ (↑(List.length y.fst.fst) : Int)) && (decide ((↑(List.length y.fst.fst) : Int) * (↑Try.prog.types[4].bytes : Int) ≤ 140737488355328) && decide ((↑(List.length y.fst.fst) : Int) ≤ 140737488355328))) then
      bif inb 0 (List.replicate (↑(List.length y.fst.fst) : Int).toNat false).length then
        bif inb 0 (List.replicate (↑(List.length y.fst.fst) : Int).toNat false).length then
          (E16_0 k k (x1, (x0, ()), y.fst.fst, (List.replicate (↑(List.length y.fst.fst) : Int).toNat false).set (Int.toNat 0) true, 0, ())).bind fun y =>
            match y with
            | Sum.inl y =>
              (E16_1 k k (y.fst, y.snd.fst, 1, ())).bind fun y =>
                match y with
                | Sum.inl y => some ((false, ()), ())
                | Sum.inr y =>
                  match y with
                  | Sum.inl y => some ((y.fst, ()), ())
                  | Sum.inr y => nomatch y
            | Sum.inr y => nomatch y
        else none
      else none
    else none) := by kernel_rfl
theorem E4_0_0_eq (k j : Nat) (x1f0 : Ty.den T25) (x3 : Ty.den T4) (x4 : Ty.den T31) (x5 : Ty.den T3) (x6f0 : Ty.den T36) (x7 : Ty.den T3) : E4_0_0 k (j + 1) ((x1f0, ()), x3, x4, x5, (x6f0, ()), x7, ()) = (
  let t0 : Bool := (!decide (rd (Ty.i IntKind.i64) x6f0.fst x7 = IntKind.i64.wrap (x5 - 1)));
  let t1 : Bool := (bif x6f0.snd.snd then t0 else false);
  let t2 : Bool := (bif decide (rd (Ty.i IntKind.i64) x6f0.fst x7 < IntKind.i64.wrap (x5 - 1)) then true else decide ((↑(List.length x1f0.fst) : Int) ≤ rd (Ty.i IntKind.i64) x6f0.fst x7));
  let t3 : Bool := (bif t2 then true else bif (rd (Ty.b.p (Ty.s.l.p (Ty.s.p (Ty.i IntKind.i64)))) x1f0.fst (rd (Ty.i IntKind.i64) x6f0.fst x7)).fst then t0 else false);
  let t4 : Bool := (bif t3 then true else bif decide (0 < x7) then decide (rd (Ty.i IntKind.i64) x6f0.fst x7 ≤ rd (Ty.i IntKind.i64) x6f0.fst (IntKind.i64.wrap (x7 - 1))) else false);
  let t5 : Bool := (bif t4 then true else bif decide (rd (Ty.i IntKind.i64) x6f0.fst x7 = IntKind.i64.wrap (x5 - 1)) then !decide ((rd (Ty.b.p (Ty.s.l.p (Ty.s.p (Ty.i IntKind.i64)))) x1f0.fst (rd (Ty.i IntKind.i64) x6f0.fst x7)).snd.snd.snd = 2) else false);
  bif decide (x7 < (↑(List.length x6f0.fst) : Int)) then bif inb x7 (List.length x6f0.fst) then bif bif !t2 then inb (rd (Ty.i IntKind.i64) x6f0.fst x7) (List.length x1f0.fst) else true then bif bif !t3 && decide (0 < x7) then inb (IntKind.i64.wrap (x7 - 1)) (List.length x6f0.fst) else true then bif bif !t4 && decide (rd (Ty.i IntKind.i64) x6f0.fst x7 = IntKind.i64.wrap (x5 - 1)) then inb (rd (Ty.i IntKind.i64) x6f0.fst x7) (List.length x1f0.fst) else true then bif bif !t5 && t1 then inb (rd (Ty.i IntKind.i64) x6f0.fst x7) (List.length x1f0.fst) else true then bif bif t5 then true else bif t1 then !decide ((rd (Ty.b.p (Ty.s.l.p (Ty.s.p (Ty.i IntKind.i64)))) x1f0.fst (rd (Ty.i IntKind.i64) x6f0.fst x7)).snd.snd.snd = 3) else false then some (Sum.inr (Sum.inl (false, ()))) else E4_0_0 k j ((x1f0, ()), x3, x4, x5, (x6f0, ()), IntKind.i64.wrap (x7 + 1), ()) else none else none else none else none else none else some (Sum.inl ((x1f0, ()), x3, x4, x5, (x6f0, ()), ()))) := by kernel_rfl
theorem E4_0_1_eq (k j : Nat) (x1f0 : Ty.den T25) (x3 : Ty.den T4) (x4 : Ty.den T31) (x5 : Ty.den T3) (x6f0 : Ty.den T36) (x9 : Ty.den T3) : E4_0_1 k (j + 1) ((x1f0, ()), x3, x4, x5, (x6f0, ()), x9, ()) = (
  let t0 : Bool := (bif decide (rd (Ty.i IntKind.i64) x6f0.snd.fst x9 < x5) then true else decide ((↑(List.length x1f0.fst) : Int) ≤ rd (Ty.i IntKind.i64) x6f0.snd.fst x9));
  let t1 : Bool := (bif t0 then true else !(rd (Ty.b.p (Ty.s.l.p (Ty.s.p (Ty.i IntKind.i64)))) x1f0.fst (rd (Ty.i IntKind.i64) x6f0.snd.fst x9)).fst);
  bif decide (x9 < (↑(List.length x6f0.snd.fst) : Int)) then bif inb x9 (List.length x6f0.snd.fst) then bif bif !t0 then inb (rd (Ty.i IntKind.i64) x6f0.snd.fst x9) (List.length x1f0.fst) else true then bif bif !t1 && decide (0 < x9) then inb (IntKind.i64.wrap (x9 - 1)) (List.length x6f0.snd.fst) else true then bif bif t1 then true else bif decide (0 < x9) then decide (rd (Ty.i IntKind.i64) x6f0.snd.fst x9 ≤ rd (Ty.i IntKind.i64) x6f0.snd.fst (IntKind.i64.wrap (x9 - 1))) else false then some (Sum.inr (Sum.inl (false, ()))) else E4_0_1 k j ((x1f0, ()), x3, x4, x5, (x6f0, ()), IntKind.i64.wrap (x9 + 1), ()) else none else none else none else some (Sum.inl ((x1f0, ()), x3, x4, x5, (x6f0, ()), ()))) := by kernel_rfl
theorem E4_0_2_eq (k j : Nat) (x1f0 : Ty.den T25) (x3 : Ty.den T4) (x4 : Ty.den T31) (x5 : Ty.den T3) (x6f0 : Ty.den T36) (x11 : Ty.den T4) (x12 : Ty.den T3) : E4_0_2 k (j + 1) ((x1f0, ()), x3, x4, x5, (x6f0, ()), x11, x12, ()) = (
  bif decide (x12 < (↑(List.length x1f0.fst) : Int)) then bif bif x11 then inb x12 (List.length x1f0.fst) else true then bif bif x11 && !(rd (Ty.b.p (Ty.s.l.p (Ty.s.p (Ty.i IntKind.i64)))) x1f0.fst x12).fst then inb x12 (List.length x1f0.fst) else true then E4_0_2 k j ((x1f0, ()), x3, x4, x5, (x6f0, ()), bif x11 then bif (rd (Ty.b.p (Ty.s.l.p (Ty.s.p (Ty.i IntKind.i64)))) x1f0.fst x12).fst then true else decide ((rd (Ty.b.p (Ty.s.l.p (Ty.s.p (Ty.i IntKind.i64)))) x1f0.fst x12).snd.snd.snd = 3) else false, IntKind.i64.wrap (x12 + 1), ()) else none else none else some (Sum.inl ((x1f0, ()), x3, x4, x5, (x6f0, ()), x11, ()))) := by kernel_rfl
theorem E4_0_eq (k j : Nat) (x1f0 : Ty.den T25) (x3 : Ty.den T4) (x4 : Ty.den T31) (x5 : Ty.den T3) : E4_0 k (j + 1) ((x1f0, ()), x3, x4, x5, ()) = (
  bif decide (x5 < (↑(List.length x4) : Int)) then
  bif inb x5 (List.length x4) then
    (E4_0_0 k k ((x1f0, ()), x3, x4, x5, (rd ((Ty.i IntKind.i64).l.p ((Ty.i IntKind.i64).l.p Ty.b)) x4 x5, ()), 0, ())).bind fun y =>
      match y with
      | Sum.inl y =>
        (E4_0_1 k k ((y.fst.fst, ()), y.snd.fst, y.snd.snd.fst, y.snd.snd.snd.fst, (y.snd.snd.snd.snd.fst.fst, ()), 0, ())).bind fun y =>
          match y with
          | Sum.inl y =>
            (E4_0_2 k k ((y.fst.fst, ()), y.snd.fst, y.snd.snd.fst, y.snd.snd.snd.fst, (y.snd.snd.snd.snd.fst.fst, ()), true, y.snd.snd.snd.fst, ())).bind fun y =>
              match y with
              | Sum.inl y => bif !decide (y.snd.snd.snd.snd.fst.fst.snd.snd = y.snd.snd.snd.snd.snd.fst) then some (Sum.inr (Sum.inl (false, ()))) else E4_0 k j ((y.fst.fst, ()), y.snd.fst, y.snd.snd.fst, IntKind.i64.wrap (y.snd.snd.snd.fst + 1), ())
              | Sum.inr y => nomatch y
          | Sum.inr y =>
            match y with
            | Sum.inl y => some (Sum.inr (Sum.inl (y.fst, ())))
            | Sum.inr y => nomatch y
      | Sum.inr y =>
        match y with
        | Sum.inl y => some (Sum.inr (Sum.inl (y.fst, ())))
        | Sum.inr y => nomatch y
  else none
  else some (Sum.inl (x3, ()))) := by kernel_rfl
theorem F4_eq (k : Nat) (x0 : Ty.den T25) : F4 k (x0, ()) = (
(F9 k ()).bind fun y =>
  (F10 k (x0, ())).bind fun y_1 =>
    bif y_1.fst.fst then some ((y.fst.fst, ()), ())
    else
      (F13 k (x0, ())).bind fun y_2 =>
        (F17 k (x0, ())).bind fun y_3 =>
          bif !y_3.fst.fst then some ((bif y.fst.fst then decide ((↑(List.length y_2.fst.fst) : Int) = 0) else false, ()), ())
          else
            bif bif !!decide ((↑(List.length y_2.fst.fst) : Int) = IntKind.i64.wrap ((↑(List.length x0.fst) : Int) + 1)) then inb 0 (List.length y_2.fst.fst) else true then
              bif bif !bif !decide ((↑(List.length y_2.fst.fst) : Int) = IntKind.i64.wrap ((↑(List.length x0.fst) : Int) + 1)) then true else (rd ((Ty.i IntKind.i64).l.p ((Ty.i IntKind.i64).l.p Ty.b)) y_2.fst.fst 0).snd.snd then inb 0 (List.length y_2.fst.fst) else true then
                bif bif !bif bif !decide ((↑(List.length y_2.fst.fst) : Int) = IntKind.i64.wrap ((↑(List.length x0.fst) : Int) + 1)) then true else (rd ((Ty.i IntKind.i64).l.p ((Ty.i IntKind.i64).l.p Ty.b)) y_2.fst.fst 0).snd.snd then true else !decide ((↑(List.length (rd ((Ty.i IntKind.i64).l.p ((Ty.i IntKind.i64).l.p Ty.b)) y_2.fst.fst 0).fst) : Int) = 1) then inb 0 (List.length y_2.fst.fst) else true then
                  bif bif bif bif !decide ((↑(List.length y_2.fst.fst) : Int) = IntKind.i64.wrap ((↑(List.length x0.fst) : Int) + 1)) then true else (rd ((Ty.i IntKind.i64).l.p ((Ty.i IntKind.i64).l.p Ty.b)) y_2.fst.fst 0).snd.snd then true else !decide ((↑(List.length (rd ((Ty.i IntKind.i64).l.p ((Ty.i IntKind.i64).l.p Ty.b)) y_2.fst.fst 0).fst) : Int) = 1) then true else !decide ((↑(List.length (rd ((Ty.i IntKind.i64).l.p ((Ty.i IntKind.i64).l.p Ty.b)) y_2.fst.fst 0).snd.fst) : Int) = 0) then some ((false, ()), ())
                  else
                    (E4_0 k k ((x0, ()), y.fst.fst, y_2.fst.fst, 1, ())).bind fun y =>
                      match y with
                      | Sum.inl y => some ((y.fst, ()), ())
                      | Sum.inr y =>
                        match y with
                        | Sum.inl y => some ((y.fst, ()), ())
                        | Sum.inr y => nomatch y
                else none
              else none
            else none) := by kernel_rfl
theorem F5_eq (k : Nat) (x0 : Ty.den T25) (x1 : Ty.den T26) : F5 k (x0, x1, ()) = (
(F9 k ()).bind fun y =>
  (F10 k (x0, ())).bind fun y_1 =>
    (bif !y_1.fst.fst then F11 k (x1, ()) else some ((Ty.b.dflt, ()), ())).bind fun y_2 =>
      (bif !bif y_1.fst.fst then true else y_2.fst.fst then F17 k (x0, ()) else some ((Ty.b.dflt, ()), ())).bind fun y_3 =>
        bif bif bif y_1.fst.fst then true else y_2.fst.fst then true else !y_3.fst.fst then some ((y.fst.fst, ()), ())
        else
          (E5_0 k k (x1, (x0, ()), y.fst.fst, decide ((↑(List.length x1) : Int) = (↑(List.length x0.fst) : Int)), 0, ())).bind fun y =>
            match y with
            | Sum.inl y => (bif y.snd.snd.fst then F15 k (y.snd.fst.fst, y.fst, ()) else some ((Ty.b.dflt, ()), ())).bind fun y_4 => some ((bif y.snd.snd.fst then decide (y_4.fst.fst = y.snd.snd.snd.fst) else false, ()), ())
            | Sum.inr y =>
              match y with
              | Sum.inl y => some ((y.fst, ()), ())
              | Sum.inr y => nomatch y) := by kernel_rfl
theorem E7_0_eq (k j : Nat) (x1 : Ty.den T26) (x2f0 : Ty.den T25) (x5 : Ty.den T4) (x6f0 : List (Ty.den T38)) (x6f1 : Ty.den T23) (x6f2 : Ty.den T2) (x6f3 : Ty.den T9) (x6f4 : Ty.den T3) (x7 : Ty.den T3) : E7_0 k (j + 1) (x1, (x2f0, ()), x5, (x6f0, x6f1, x6f2, x6f3, x6f4, ()), x7, ()) = (
  bif decide (x7 < (↑(List.length x2f0.fst) : Int)) then bif inb x7 (List.length x2f0.fst) then bif !(rd (Ty.b.p (Ty.s.l.p (Ty.s.p (Ty.i IntKind.i64)))) x2f0.fst x7).fst then bif inb x7 (List.length x2f0.fst) then bif decide ((x6f0.length + [rd (Ty.b.p (Ty.s.l.p (Ty.s.p (Ty.i IntKind.i64)))) x2f0.fst x7].length) * (55 + 1) ≤ 140737488355328) then E7_0 k j (x1, (x2f0, ()), x5, (x6f0 ++ [rd (Ty.b.p (Ty.s.l.p (Ty.s.p (Ty.i IntKind.i64)))) x2f0.fst x7], x6f1, x6f2, x6f3, x6f4, ()), IntKind.i64.wrap (x7 + 1), ()) else none else none else E7_0 k j (x1, (x2f0, ()), x5, (x6f0, x6f1, x6f2, x6f3, x6f4, ()), IntKind.i64.wrap (x7 + 1), ()) else none else some (Sum.inl (x1, (x2f0, ()), x5, (x6f0, x6f1, x6f2, x6f3, x6f4, ()), ()))) := by kernel_rfl
theorem F7_eq (k : Nat) (x0 : Ty.den T25) (x1 : Ty.den T26) : F7 k (x0, x1, ()) = (
(F9 k ()).bind fun y =>
  (F10 k (x0, ())).bind fun y_1 =>
    (bif !y_1.fst.fst then F11 k (x1, ()) else some ((Ty.b.dflt, ()), ())).bind fun y_2 =>
      (bif !bif y_1.fst.fst then true else y_2.fst.fst then F17 k (x0, ()) else some ((Ty.b.dflt, ()), ())).bind fun y_3 =>
        bif bif bif y_1.fst.fst then true else y_2.fst.fst then true else !y_3.fst.fst then some ((y.fst.fst, ()), ())
        else
          (E7_0 k k (x1, (x0, ()), y.fst.fst, ([], [], x0.snd.snd.fst, x0.snd.snd.snd.fst, x0.snd.snd.snd.snd, ()), 0, ())).bind fun y =>
            match y with
            | Sum.inl y => (bif y.snd.snd.fst then F15 k ((y.snd.snd.snd.fst.fst, y.snd.snd.snd.fst.snd.fst, y.snd.snd.snd.fst.snd.snd.fst, y.snd.snd.snd.fst.snd.snd.snd.fst, y.snd.snd.snd.fst.snd.snd.snd.snd.fst), y.fst, ()) else some ((Ty.b.dflt, ()), ())).bind fun y_4 => (bif y.snd.snd.fst then F15 k (y.snd.fst.fst, y.fst, ()) else some ((Ty.b.dflt, ()), ())).bind fun y_5 => some ((bif y.snd.snd.fst then decide (y_4.fst.fst = y_5.fst.fst) else false, ()), ())
            | Sum.inr y => nomatch y) := by kernel_rfl
theorem E8_0_eq (k j : Nat) (x1 : Ty.den T26) (x3f0 : Ty.den T25) (x7 : Ty.den T4) (x8 : Ty.den T3) (x9 : Ty.den T3) : E8_0 k (j + 1) (x1, (x3f0, ()), x7, x8, x9, ()) = (
  bif decide (x9 < (↑(List.length x1) : Int)) then bif inb x8 (List.length x3f0.fst) then bif inb x9 (List.length x1) then (F18 k (rd (Ty.b.p (Ty.s.l.p (Ty.s.p (Ty.i IntKind.i64)))) x3f0.fst x8, rd Ty.s x1 x9, ())).bind fun y => bif y.fst.fst then some (Sum.inr (Sum.inl (x7, ()))) else E8_0 k j (x1, (x3f0, ()), x7, x8, IntKind.i64.wrap (x9 + 1), ()) else none else none else some (Sum.inl (x1, (x3f0, ()), x7, x8, ()))) := by kernel_rfl
end Go.Pv.L12
