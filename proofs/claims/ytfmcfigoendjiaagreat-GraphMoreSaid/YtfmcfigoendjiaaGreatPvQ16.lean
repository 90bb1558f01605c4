/- The meanings of functions, laid open: written by eqs.py. -/
import Derived.Test.YtfmcfigoendjiaaGreatPvL16
namespace Go.Pv.L16
open Go Go.Pv Go.Proofs
set_option linter.all false
set_option linter.constructorNameAsVariable false
set_option linter.unusedSectionVars false
set_option linter.unusedVariables false
set_option linter.unusedSimpArgs false
set_option maxRecDepth 100000
theorem F77_eq (k : Nat) (x0 : Ty.den T5) : F77 k (x0, ()) = (
  some ((bif decide (97 ≤ (↑(UInt8.toNat x0) : Int)) then decide ((↑(UInt8.toNat x0) : Int) ≤ 122) else false, ()), ())) := by kernel_rfl
theorem F79_eq (k : Nat) (x0 : Ty.den T5) : F79 k (x0, ()) = (
  some ((bif decide (48 ≤ (↑(UInt8.toNat x0) : Int)) then decide ((↑(UInt8.toNat x0) : Int) ≤ 57) else false, ()), ())) := by kernel_rfl
theorem E78_0_eq (k j : Nat) (x0 : Ty.den T9) (x3 : Ty.den T3) : E78_0 k (j + 1) (x0, x3, ()) = (
  bif bif decide (x3 < (↑(ByteArray.size x0) : Int)) then inb x3 (ByteArray.size x0) else true then (bif decide (x3 < (↑(ByteArray.size x0) : Int)) then F77 k (UInt8.ofNat (↑(bt x0 x3).toNat : Int).toNat, ()) else some ((Ty.b.dflt, ()), ())).bind fun y => bif bif decide (x3 < (↑(ByteArray.size x0) : Int)) && !y.fst.fst && decide (0 < x3) then inb x3 (ByteArray.size x0) else true then (bif decide (x3 < (↑(ByteArray.size x0) : Int)) && !y.fst.fst && decide (0 < x3) then F79 k (UInt8.ofNat (↑(bt x0 x3).toNat : Int).toNat, ()) else some ((Ty.b.dflt, ()), ())).bind fun y_1 => bif bif decide (x3 < (↑(ByteArray.size x0) : Int)) && !y.fst.fst && decide (0 < x3) && !y_1.fst.fst then inb x3 (ByteArray.size x0) else true then bif bif decide (x3 < (↑(ByteArray.size x0) : Int)) then bif y.fst.fst then true else bif decide (0 < x3) then bif y_1.fst.fst then true else decide ((↑(bt x0 x3).toNat : Int) = 95) else false else false then E78_0 k j (x0, IntKind.i64.wrap (x3 + 1), ()) else some (Sum.inl (x3, ())) else none else none else none) := by kernel_rfl
theorem F78_eq (k : Nat) (x0 : Ty.den T9) : F78 k (x0, ()) = (
(E78_0 k k (x0, 0, ())).bind fun y =>
  match y with
  | Sum.inl y => bif decide (16 < y.fst) then some ((0, ()), ()) else some ((y.fst, ()), ())
  | Sum.inr y => nomatch y) := by kernel_rfl
theorem E80_0_eq (k j : Nat) (x0 : Ty.den T9) (x3 : Ty.den T3) (x4 : Ty.den T3) : E80_0 k (j + 1) (x0, x3, x4, ()) = (
  bif bif decide (x3 < (↑(ByteArray.size x0) : Int)) then inb x3 (ByteArray.size x0) else true then (bif decide (x3 < (↑(ByteArray.size x0) : Int)) then F79 k (UInt8.ofNat (↑(bt x0 x3).toNat : Int).toNat, ()) else some ((Ty.b.dflt, ()), ())).bind fun y => bif bif decide (x3 < (↑(ByteArray.size x0) : Int)) then y.fst.fst else false then bif decide (x3 < 13) then bif inb x3 (ByteArray.size x0) then E80_0 k j (x0, IntKind.i64.wrap (x3 + 1), IntKind.i64.wrap (IntKind.i64.wrap (10 * x4) + IntKind.i64.wrap (IntKind.u8.wrap ((↑(bt x0 x3).toNat : Int) - 48))), ()) else none else E80_0 k j (x0, IntKind.i64.wrap (x3 + 1), x4, ()) else some (Sum.inl (x0, x3, x4, ())) else none) := by kernel_rfl
theorem F80_eq (k : Nat) (x0 : Ty.den T9) : F80 k (x0, ()) = (
(E80_0 k k (x0, 0, 0, ())).bind fun y =>
  match y with
  | Sum.inl y => bif bif (!bif decide (13 < y.snd.fst) then true else decide (1099511627776 < y.snd.snd.fst)) && decide (1 < y.snd.fst) then inb 0 (ByteArray.size y.fst) else true then bif bif bif decide (13 < y.snd.fst) then true else decide (1099511627776 < y.snd.snd.fst) then true else bif decide (1 < y.snd.fst) then decide ((↑(bt y.fst 0).toNat : Int) = 48) else false then some ((0, ()), ()) else some ((y.snd.fst, ()), ()) else none
  | Sum.inr y => nomatch y) := by kernel_rfl
theorem E81_0_eq (k j : Nat) (x0 : Ty.den T9) (x3 : Ty.den T3) : E81_0 k (j + 1) (x0, x3, ()) = (
  bif bif decide (x3 < (↑(ByteArray.size x0) : Int)) then decide (x3 ≤ 65) else false then bif inb x3 (ByteArray.size x0) then bif decide ((↑(bt x0 x3).toNat : Int) = 39) then some (Sum.inr (Sum.inl (IntKind.i64.wrap (x3 + 1), ()))) else bif inb x3 (ByteArray.size x0) then bif bif !decide ((↑(bt x0 x3).toNat : Int) < 32) then inb x3 (ByteArray.size x0) else true then bif bif decide ((↑(bt x0 x3).toNat : Int) < 32) then true else decide (126 < (↑(bt x0 x3).toNat : Int)) then some (Sum.inr (Sum.inl (0, ()))) else E81_0 k j (x0, IntKind.i64.wrap (x3 + 1), ()) else none else none else none else some (Sum.inl ())) := by kernel_rfl
theorem F81_eq (k : Nat) (x0 : Ty.den T9) : F81 k (x0, ()) = (
(E81_0 k k (x0, 1, ())).bind fun y =>
  match y with
  | Sum.inl y => some ((0, ()), ())
  | Sum.inr y =>
    match y with
    | Sum.inl y => some ((y.fst, ()), ())
    | Sum.inr y => nomatch y) := by kernel_rfl
theorem E82_0_eq (k j : Nat) (x0 : Ty.den T9) (x3 : Ty.den T9) (x4 : Ty.den T3) : E82_0 k (j + 1) (x0, x3, x4, ()) = (
  bif decide (x4 < (↑(ByteArray.size x3) : Int)) then bif inb 0 (ByteArray.size x0) then bif inb x4 (ByteArray.size x3) then bif decide ((↑(bt x0 0).toNat : Int) = (↑(bt x3 x4).toNat : Int)) then some (Sum.inr (Sum.inl (1, ()))) else E82_0 k j (x0, x3, IntKind.i64.wrap (x4 + 1), ()) else none else none else some (Sum.inl ())) := by kernel_rfl
theorem F82_eq (k : Nat) (x0 : Ty.den T9) : F82 k (x0, ()) = (
  let t0 : Bool := (bif decide (1 < (↑(ByteArray.size x0) : Int)) then decide ((↑(bt x0 1).toNat : Int) = 61) else false);
  let t1 : Bool := (bif decide ((↑(bt x0 0).toNat : Int) = 33) then true else decide ((↑(bt x0 0).toNat : Int) = 60));
  bif bif decide (1 < (↑(ByteArray.size x0) : Int)) then inb 1 (ByteArray.size x0) else true then
  bif bif t0 then inb 0 (ByteArray.size x0) else true then
    bif bif t0 && !decide ((↑(bt x0 0).toNat : Int) = 33) then inb 0 (ByteArray.size x0) else true then
      bif bif t0 && !t1 then inb 0 (ByteArray.size x0) else true then
        bif bif t0 then bif t1 then true else decide ((↑(bt x0 0).toNat : Int) = 62) else false then some ((2, ()), ())
        else
          (E82_0 k k (x0, { data := #[61, 60, 62, 43, 45, 40, 41, 46, 63] : ByteArray }, 0, ())).bind fun y =>
            match y with
            | Sum.inl y => some ((0, ()), ())
            | Sum.inr y =>
              match y with
              | Sum.inl y => some ((y.fst, ()), ())
              | Sum.inr y => nomatch y
      else none
    else none
  else none
  else none) := by kernel_rfl
theorem E51_0_eq (k j : Nat) (x0 : Ty.den T9) (x5 : List (Ty.den T78)) (x6 : Ty.den T3) : E51_0 k (j + 1) (x0, x5, x6, ()) = (
  bif decide (x6 < (↑(ByteArray.size x0) : Int)) then bif inb x6 (ByteArray.size x0) then bif bif decide ((↑(bt x0 x6).toNat : Int) = 32) then true else decide ((↑(bt x0 x6).toNat : Int) = 10) then E51_0 k j (x0, x5, IntKind.i64.wrap (x6 + 1), ()) else (F77 k (UInt8.ofNat (↑(bt x0 x6).toNat : Int).toNat, ())).bind fun y => bif y.fst.fst then bif inr x6 (↑(ByteArray.size x0) : Int) (ByteArray.size x0) then (F78 k (ByteArray.extract x0 (Int.toNat x6) (↑(ByteArray.size x0) : Int).toNat, ())).bind fun y => bif decide (y.fst.fst = 0) then some (Sum.inr (Sum.inl ([], 71, x6, ()))) else bif decide ((↑x5.length : Int) = 128) then some (Sum.inr (Sum.inl ([], 2, x6, ()))) else bif inr x6 (IntKind.i64.wrap (x6 + y.fst.fst)) (ByteArray.size x0) then bif decide ((x5.length + [(1, ByteArray.extract x0 (Int.toNat x6) (IntKind.i64.wrap (x6 + y.fst.fst)).toNat, x6)].length) * (31 + 1) ≤ 140737488355328) then E51_0 k j (x0, x5 ++ [(1, ByteArray.extract x0 (Int.toNat x6) (IntKind.i64.wrap (x6 + y.fst.fst)).toNat, x6)], IntKind.i64.wrap (x6 + y.fst.fst), ()) else none else none else none else (F79 k (UInt8.ofNat (↑(bt x0 x6).toNat : Int).toNat, ())).bind fun y => bif y.fst.fst then bif inr x6 (↑(ByteArray.size x0) : Int) (ByteArray.size x0) then (F80 k (ByteArray.extract x0 (Int.toNat x6) (↑(ByteArray.size x0) : Int).toNat, ())).bind fun y => bif decide (y.fst.fst = 0) then some (Sum.inr (Sum.inl ([], 71, x6, ()))) else bif decide ((↑x5.length : Int) = 128) then some (Sum.inr (Sum.inl ([], 2, x6, ()))) else bif inr x6 (IntKind.i64.wrap (x6 + y.fst.fst)) (ByteArray.size x0) then bif decide ((x5.length + [(2, ByteArray.extract x0 (Int.toNat x6) (IntKind.i64.wrap (x6 + y.fst.fst)).toNat, x6)].length) * (31 + 1) ≤ 140737488355328) then E51_0 k j (x0, x5 ++ [(2, ByteArray.extract x0 (Int.toNat x6) (IntKind.i64.wrap (x6 + y.fst.fst)).toNat, x6)], IntKind.i64.wrap (x6 + y.fst.fst), ()) else none else none else none else bif decide ((↑(bt x0 x6).toNat : Int) = 39) then bif inr x6 (↑(ByteArray.size x0) : Int) (ByteArray.size x0) then (F81 k (ByteArray.extract x0 (Int.toNat x6) (↑(ByteArray.size x0) : Int).toNat, ())).bind fun y => bif decide (y.fst.fst = 0) then some (Sum.inr (Sum.inl ([], 71, x6, ()))) else bif decide ((↑x5.length : Int) = 128) then some (Sum.inr (Sum.inl ([], 2, x6, ()))) else bif inr x6 (IntKind.i64.wrap (x6 + y.fst.fst)) (ByteArray.size x0) then bif inr (IntKind.i64.wrap (x6 + 1)) (IntKind.i64.wrap (IntKind.i64.wrap (x6 + y.fst.fst) - 1)) (ByteArray.size x0) then bif decide ((x5.length + [(3, ByteArray.extract x0 (IntKind.i64.wrap (x6 + 1)).toNat (IntKind.i64.wrap (IntKind.i64.wrap (x6 + y.fst.fst) - 1)).toNat, x6)].length) * (31 + 1) ≤ 140737488355328) then E51_0 k j (x0, x5 ++ [(3, ByteArray.extract x0 (IntKind.i64.wrap (x6 + 1)).toNat (IntKind.i64.wrap (IntKind.i64.wrap (x6 + y.fst.fst) - 1)).toNat, x6)], IntKind.i64.wrap (x6 + y.fst.fst), ()) else none else none else none else none else bif inr x6 (↑(ByteArray.size x0) : Int) (ByteArray.size x0) then (F82 k (ByteArray.extract x0 (Int.toNat x6) (↑(ByteArray.size x0) : Int).toNat, ())).bind fun y => bif decide (y.fst.fst = 0) then some (Sum.inr (Sum.inl ([], 71, x6, ()))) else bif decide ((↑x5.length : Int) = 128) then some (Sum.inr (Sum.inl ([], 2, x6, ()))) else bif inr x6 (IntKind.i64.wrap (x6 + y.fst.fst)) (ByteArray.size x0) then bif decide ((x5.length + [(4, ByteArray.extract x0 (Int.toNat x6) (IntKind.i64.wrap (x6 + y.fst.fst)).toNat, x6)].length) * (31 + 1) ≤ 140737488355328) then E51_0 k j (x0, x5 ++ [(4, ByteArray.extract x0 (Int.toNat x6) (IntKind.i64.wrap (x6 + y.fst.fst)).toNat, x6)], IntKind.i64.wrap (x6 + y.fst.fst), ()) else none else none else none else none else some (Sum.inl (x5, ()))) := by kernel_rfl
theorem F51_eq (k : Nat) (x0 : Ty.den T9) : F51 k (x0, ()) = (
  bif decide (512 < (↑(ByteArray.size x0) : Int)) then some (([], 2, 0, ()), ())
  else
  (E51_0 k k (x0, [], 0, ())).bind fun y =>
    match y with
    | Sum.inl y => some ((y.fst, 0, 0, ()), ())
    | Sum.inr y =>
      match y with
      | Sum.inl y => some ((y.fst, y.snd.fst, y.snd.snd.fst, ()), ())
      | Sum.inr y => nomatch y) := by kernel_rfl
theorem F108_eq (k : Nat) (x0f0 : Ty.den T70) (x0f1 : Ty.den T3) (x0f2 : Ty.den T4) (x0f3 : Ty.den T3) (x1 : Ty.den T3) (x2 : Ty.den T9) : F108 k ((x0f0, x0f1, x0f2, x0f3, ()), x1, x2, ()) = (
  let t0 : Bool := (bif bif !x0f2 then decide (x0f1 < (↑(List.length x0f0) : Int)) else false then decide ((rd ((Ty.i IntKind.i64).p (Ty.s.p (Ty.i IntKind.i64))) x0f0 x0f1).fst = x1) else false);
  bif bif bif !x0f2 then decide (x0f1 < (↑(List.length x0f0) : Int)) else false then inb x0f1 (List.length x0f0) else true then bif bif t0 then inb x0f1 (List.length x0f0) else true then some ((bif t0 then decide ((rd ((Ty.i IntKind.i64).p (Ty.s.p (Ty.i IntKind.i64))) x0f0 x0f1).snd.fst = x2) else false, ()), (x0f0, x0f1, x0f2, x0f3, ()), ()) else none else none) := by kernel_rfl
theorem F85_eq (k : Nat) (x0f0 : Ty.den T70) (x0f1 : Ty.den T3) (x0f2 : Ty.den T4) (x0f3 : Ty.den T3) (x1 : Ty.den T3) (x2 : Ty.den T9) : F85 k ((x0f0, x0f1, x0f2, x0f3, ()), x1, x2, ()) = (
(F108 k ((x0f0, x0f1, x0f2, x0f3, ()), x1, x2, ())).bind fun y => bif y.fst.fst then some ((true, ()), (y.snd.fst.fst, IntKind.i64.wrap (y.snd.fst.snd.fst + 1), y.snd.fst.snd.snd.fst, y.snd.fst.snd.snd.snd.fst, ()), ()) else some ((false, ()), (y.snd.fst.fst, y.snd.fst.snd.fst, y.snd.fst.snd.snd.fst, y.snd.fst.snd.snd.snd.fst, ()), ())) := by kernel_rfl
theorem F90_eq (k : Nat) (x0f0 : Ty.den T70) (x0f1 : Ty.den T3) (x0f2 : Ty.den T4) (x0f3 : Ty.den T3) : F90 k ((x0f0, x0f1, x0f2, x0f3, ()), ()) = (
  some ((), (x0f0, x0f1, true, x0f3, ()), ())) := by kernel_rfl
theorem F83_eq (k : Nat) (x0f0 : Ty.den T70) (x0f1 : Ty.den T3) (x0f2 : Ty.den T4) (x0f3 : Ty.den T3) (x1 : Ty.den T3) (x2 : Ty.den T9) : F83 k ((x0f0, x0f1, x0f2, x0f3, ()), x1, x2, ()) = (
(F85 k ((x0f0, x0f1, x0f2, x0f3, ()), x1, x2, ())).bind fun y => bif !y.fst.fst then (F90 k ((y.snd.fst.fst, y.snd.fst.snd.fst, y.snd.fst.snd.snd.fst, y.snd.fst.snd.snd.snd.fst, ()), ())).bind fun y => some ((), (y.snd.fst.fst, y.snd.fst.snd.fst, y.snd.fst.snd.snd.fst, y.snd.fst.snd.snd.snd.fst, ()), ()) else some ((), (y.snd.fst.fst, y.snd.fst.snd.fst, y.snd.fst.snd.snd.fst, y.snd.fst.snd.snd.snd.fst, ()), ())) := by kernel_rfl
theorem E42_0_eq (k j : Nat) (x0 : Ty.den T9) (x3 : Ty.den T3) : E42_0 k (j + 1) (x0, x3, ()) = (
  bif decide (x3 < (↑(ByteArray.size x0) : Int)) then bif inb x3 (ByteArray.size x0) then bif bif !bif decide (97 ≤ (↑(bt x0 x3).toNat : Int)) then decide ((↑(bt x0 x3).toNat : Int) ≤ 122) else false then bif decide (x3 = 0) then true else bif !decide ((↑(bt x0 x3).toNat : Int) = 95) then bif decide ((↑(bt x0 x3).toNat : Int) < 48) then true else decide (57 < (↑(bt x0 x3).toNat : Int)) else false else false then some (Sum.inr (Sum.inl (false, ()))) else E42_0 k j (x0, IntKind.i64.wrap (x3 + 1), ()) else none else some (Sum.inl (x0, ()))) := by kernel_rfl
theorem F42_eq (k : Nat) (x0 : Ty.den T9) : F42 k (x0, ()) = (
(E42_0 k k (x0, 0, ())).bind fun y =>
  match y with
  | Sum.inl y => some ((bif decide (1 ≤ (↑(ByteArray.size y.fst) : Int)) then decide ((↑(ByteArray.size y.fst) : Int) ≤ 16) else false, ()), ())
  | Sum.inr y =>
    match y with
    | Sum.inl y => some ((y.fst, ()), ())
    | Sum.inr y => nomatch y) := by kernel_rfl
theorem E43_0_eq (k j : Nat) (x0 : Ty.den T9) (x3 : List (Ty.den T9)) (x4 : Ty.den T3) : E43_0 k (j + 1) (x0, x3, x4, ()) = (
  bif decide (x4 < (↑x3.length : Int)) then bif inb x4 x3.length then bif inb x4 x3.length then bif decide (rd Ty.s x3 x4 = x0) then some (Sum.inr (Sum.inl (true, ()))) else E43_0 k j (x0, x3, IntKind.i64.wrap (x4 + 1), ()) else none else none else some (Sum.inl ())) := by kernel_rfl
theorem F29_eq (k : Nat) (x0 : Ty.den T9) : F29 k (x0, ()) = (
(F42 k (x0, ())).bind fun y => (bif y.fst.fst then F43 k (x0, ()) else some ((Ty.b.dflt, ()), ())).bind fun y_1 => some ((bif y.fst.fst then !y_1.fst.fst else false, ()), ())) := by kernel_rfl
theorem F111_eq (k : Nat) (x0f0 : Ty.den T70) (x0f1 : Ty.den T3) (x0f2 : Ty.den T4) (x0f3 : Ty.den T3) : F111 k ((x0f0, x0f1, x0f2, x0f3, ()), ()) = (
  let t0 : Bool := (bif bif !x0f2 then decide (x0f1 < (↑(List.length x0f0) : Int)) else false then decide ((rd ((Ty.i IntKind.i64).p (Ty.s.p (Ty.i IntKind.i64))) x0f0 x0f1).fst = 1) else false);
  bif bif bif !x0f2 then decide (x0f1 < (↑(List.length x0f0) : Int)) else false then inb x0f1 (List.length x0f0) else true then bif bif t0 then inb x0f1 (List.length x0f0) else true then (bif t0 then F29 k ((rd ((Ty.i IntKind.i64).p (Ty.s.p (Ty.i IntKind.i64))) x0f0 x0f1).snd.fst, ()) else some ((Ty.b.dflt, ()), ())).bind fun y => some ((bif t0 then y.fst.fst else false, ()), (x0f0, x0f1, x0f2, x0f3, ()), ()) else none else none) := by kernel_rfl
theorem F88_eq (k : Nat) (x0f0 : Ty.den T70) (x0f1 : Ty.den T3) (x0f2 : Ty.den T4) (x0f3 : Ty.den T3) : F88 k ((x0f0, x0f1, x0f2, x0f3, ()), ()) = (
(F111 k ((x0f0, x0f1, x0f2, x0f3, ()), ())).bind fun y => bif !y.fst.fst then (F90 k ((y.snd.fst.fst, y.snd.fst.snd.fst, y.snd.fst.snd.snd.fst, y.snd.fst.snd.snd.snd.fst, ()), ())).bind fun y => some (({ data := #[] : ByteArray }, ()), (y.snd.fst.fst, y.snd.fst.snd.fst, y.snd.fst.snd.snd.fst, y.snd.fst.snd.snd.snd.fst, ()), ()) else bif inb (IntKind.i64.wrap (IntKind.i64.wrap (y.snd.fst.snd.fst + 1) - 1)) (List.length y.snd.fst.fst) then some (((rd ((Ty.i IntKind.i64).p (Ty.s.p (Ty.i IntKind.i64))) y.snd.fst.fst (IntKind.i64.wrap (IntKind.i64.wrap (y.snd.fst.snd.fst + 1) - 1))).snd.fst, ()), (y.snd.fst.fst, IntKind.i64.wrap (y.snd.fst.snd.fst + 1), y.snd.fst.snd.snd.fst, y.snd.fst.snd.snd.snd.fst, ()), ()) else none) := by kernel_rfl
theorem E84_0_eq (k j : Nat) (x0f0 : Ty.den T70) (x0f1 : Ty.den T3) (x0f2 : Ty.den T4) (x0f3 : Ty.den T3) (x2f0 : Ty.den T66) (x3f0 : Ty.den T4) (x3f1 : List (Ty.den T9)) (x3f2 : Ty.den T9) (x3f3 : Ty.den T3) (x4 : Ty.den T4) : E84_0 k (j + 1) ((x0f0, x0f1, x0f2, x0f3, ()), (x2f0, ()), (x3f0, x3f1, x3f2, x3f3, ()), x4, ()) = (
  bif x4 then (F88 k ((x0f0, x0f1, x0f2, x0f3, ()), ())).bind fun y => bif decide ((x3f1.length + [y.fst.fst].length) * (15 + 1) ≤ 140737488355328) then (F85 k ((y.snd.fst.fst, y.snd.fst.snd.fst, y.snd.fst.snd.snd.fst, y.snd.fst.snd.snd.snd.fst, ()), 1, { data := #[111, 114] : ByteArray }, ())).bind fun y_1 => E84_0 k j ((y_1.snd.fst.fst, y_1.snd.fst.snd.fst, y_1.snd.fst.snd.snd.fst, y_1.snd.fst.snd.snd.snd.fst, ()), (x2f0, ()), (x3f0, x3f1 ++ [y.fst.fst], x3f2, x3f3, ()), y_1.fst.fst, ()) else none else some (Sum.inl ((x0f0, x0f1, x0f2, x0f3, ()), (x2f0, ()), (x3f0, x3f1, x3f2, x3f3, ()), ()))) := by kernel_rfl
theorem F84_eq (k : Nat) (x0f0 : Ty.den T70) (x0f1 : Ty.den T3) (x0f2 : Ty.den T4) (x0f3 : Ty.den T3) : F84 k ((x0f0, x0f1, x0f2, x0f3, ()), ()) = (
(F85 k ((x0f0, x0f1, x0f2, x0f3, ()), 1, { data := #[110, 111, 116] : ByteArray }, ())).bind fun y =>
  (E84_0 k k ((y.snd.fst.fst, y.snd.fst.snd.fst, y.snd.fst.snd.snd.fst, y.snd.fst.snd.snd.snd.fst, ()), ((false, [], { data := #[] : ByteArray }, 0), ()), (y.fst.fst, [], { data := #[] : ByteArray }, 1, ()), true, ())).bind fun y =>
    match y with
    | Sum.inl y => (F88 k ((y.fst.fst, y.fst.snd.fst, y.fst.snd.snd.fst, y.fst.snd.snd.snd.fst, ()), ())).bind fun y_1 => (F85 k ((y_1.snd.fst.fst, y_1.snd.fst.snd.fst, y_1.snd.fst.snd.snd.fst, y_1.snd.fst.snd.snd.snd.fst, ()), 4, { data := #[43] : ByteArray }, ())).bind fun y_2 => bif y_2.fst.fst then some (((y.snd.snd.fst.fst, y.snd.snd.fst.snd.fst, y_1.fst.fst, 2), ()), (y_2.snd.fst.fst, y_2.snd.fst.snd.fst, y_2.snd.fst.snd.snd.fst, y_2.snd.fst.snd.snd.snd.fst, ()), ()) else (F85 k ((y_2.snd.fst.fst, y_2.snd.fst.snd.fst, y_2.snd.fst.snd.snd.fst, y_2.snd.fst.snd.snd.snd.fst, ()), 4, { data := #[63] : ByteArray }, ())).bind fun y_3 => bif y_3.fst.fst then some (((y.snd.snd.fst.fst, y.snd.snd.fst.snd.fst, y_1.fst.fst, 3), ()), (y_3.snd.fst.fst, y_3.snd.fst.snd.fst, y_3.snd.fst.snd.snd.fst, y_3.snd.fst.snd.snd.snd.fst, ()), ()) else some (((y.snd.snd.fst.fst, y.snd.snd.fst.snd.fst, y_1.fst.fst, y.snd.snd.fst.snd.snd.snd.fst), ()), (y_3.snd.fst.fst, y_3.snd.fst.snd.fst, y_3.snd.fst.snd.snd.fst, y_3.snd.fst.snd.snd.snd.fst, ()), ())
    | Sum.inr y => nomatch y) := by kernel_rfl
theorem E87_0_eq (k j : Nat) (x0f0 : Ty.den T70) (x0f1 : Ty.den T3) (x0f2 : Ty.den T4) (x0f3 : Ty.den T3) (x3 : Ty.den T2) (x4 : Ty.den T9) (x5 : Ty.den T3) : E87_0 k (j + 1) ((x0f0, x0f1, x0f2, x0f3, ()), x3, x4, x5, ()) = (
  bif decide (x5 < (↑(ByteArray.size x4) : Int)) then bif inb x5 (ByteArray.size x4) then E87_0 k j ((x0f0, x0f1, x0f2, x0f3, ()), IntKind.i64.wrap (IntKind.i64.wrap (10 * x3) + IntKind.i64.wrap (IntKind.u8.wrap ((↑(bt x4 x5).toNat : Int) - 48))), x4, IntKind.i64.wrap (x5 + 1), ()) else none else some (Sum.inl ((x0f0, x0f1, x0f2, x0f3, ()), x3, ()))) := by kernel_rfl
theorem F87_eq (k : Nat) (x0f0 : Ty.den T70) (x0f1 : Ty.den T3) (x0f2 : Ty.den T4) (x0f3 : Ty.den T3) : F87 k ((x0f0, x0f1, x0f2, x0f3, ()), ()) = (
  bif bif !bif x0f2 then true else decide ((↑(List.length x0f0) : Int) ≤ x0f1) then inb x0f1 (List.length x0f0) else true then
  bif bif bif x0f2 then true else decide ((↑(List.length x0f0) : Int) ≤ x0f1) then true else !decide ((rd ((Ty.i IntKind.i64).p (Ty.s.p (Ty.i IntKind.i64))) x0f0 x0f1).fst = 2) then (F90 k ((x0f0, x0f1, x0f2, x0f3, ()), ())).bind fun y => some ((0, ()), (y.snd.fst.fst, y.snd.fst.snd.fst, y.snd.fst.snd.snd.fst, y.snd.fst.snd.snd.snd.fst, ()), ())
  else
    bif inb x0f1 (List.length x0f0) then
      (E87_0 k k ((x0f0, x0f1, x0f2, x0f3, ()), 0, (rd ((Ty.i IntKind.i64).p (Ty.s.p (Ty.i IntKind.i64))) x0f0 x0f1).snd.fst, 0, ())).bind fun y =>
        match y with
        | Sum.inl y => some ((y.snd.fst, ()), (y.fst.fst, IntKind.i64.wrap (y.fst.snd.fst + 1), y.fst.snd.snd.fst, y.fst.snd.snd.snd.fst, ()), ())
        | Sum.inr y => nomatch y
    else none
  else none) := by kernel_rfl
theorem F125_eq (k : Nat) (x0 : Ty.den T3) : F125 k (x0, ()) = (
  bif decide (x0 = 4) then some (({ data := #[115, 117, 109] : ByteArray }, ()), ()) else bif decide (x0 = 5) then some (({ data := #[109, 105, 110] : ByteArray }, ()), ()) else bif decide (x0 = 6) then some (({ data := #[109, 97, 120] : ByteArray }, ()), ()) else some (({ data := #[] : ByteArray }, ()), ())) := by kernel_rfl
theorem F126_eq (k : Nat) (x0f0 : Ty.den T70) (x0f1 : Ty.den T3) (x0f2 : Ty.den T4) (x0f3 : Ty.den T3) (x1 : Ty.den T3) : F126 k ((x0f0, x0f1, x0f2, x0f3, ()), x1, ()) = (
(F88 k ((x0f0, x0f1, x0f2, x0f3, ()), ())).bind fun y => (F83 k ((y.snd.fst.fst, y.snd.fst.snd.fst, y.snd.fst.snd.snd.fst, y.snd.fst.snd.snd.snd.fst, ()), 4, { data := #[46] : ByteArray }, ())).bind fun y_1 => (F88 k ((y_1.snd.fst.fst, y_1.snd.fst.snd.fst, y_1.snd.fst.snd.snd.fst, y_1.snd.fst.snd.snd.snd.fst, ()), ())).bind fun y_2 => some ((Ex.mk x1 0 0 { data := #[] : ByteArray } y.fst.fst y_2.fst.fst [], ()), (y_2.snd.fst.fst, y_2.snd.fst.snd.fst, y_2.snd.fst.snd.snd.fst, y_2.snd.fst.snd.snd.snd.fst, ()), ())) := by kernel_rfl
theorem E122_0_eq (k j : Nat) (s109 : shsDen I109 → Option (shsDen O109 × shsDen (shsUpd I109))) (x0f0 : Ty.den T70) (x0f1 : Ty.den T3) (x0f2 : Ty.den T4) (x0f3 : Ty.den T3) (x2f0 : Ty.den T84) (x7 : Ty.den T3) : E122_0 k s109 (j + 1) ((x0f0, x0f1, x0f2, x0f3, ()), (x2f0, ()), x7, ()) = (
  bif decide (x7 ≤ 6) then (F125 k (x7, ())).bind fun y => (F85 k ((x0f0, x0f1, x0f2, x0f3, ()), 1, y.fst.fst, ())).bind fun y => bif y.fst.fst then (F83 k ((y.snd.fst.fst, y.snd.fst.snd.fst, y.snd.fst.snd.snd.fst, y.snd.fst.snd.snd.snd.fst, ()), 4, { data := #[40] : ByteArray }, ())).bind fun y => (F126 k ((y.snd.fst.fst, y.snd.fst.snd.fst, y.snd.fst.snd.snd.fst, y.snd.fst.snd.snd.snd.fst, ()), x7, ())).bind fun y => (F83 k ((y.snd.fst.fst, y.snd.fst.snd.fst, y.snd.fst.snd.snd.fst, y.snd.fst.snd.snd.snd.fst, ()), 4, { data := #[41] : ByteArray }, ())).bind fun y_1 => some (Sum.inr (Sum.inl ((y_1.snd.fst.fst, y_1.snd.fst.snd.fst, y_1.snd.fst.snd.snd.fst, y_1.snd.fst.snd.snd.snd.fst, ()), (Ex.mk (Ex.kind y.fst.fst) (Ex.vk y.fst.fst) (Ex.vn y.fst.fst) (Ex.vs y.fst.fst) (Ex.var y.fst.fst) (Ex.fld y.fst.fst) (Ex.kids y.fst.fst), ()), ()))) else E122_0 k s109 j ((y.snd.fst.fst, y.snd.fst.snd.fst, y.snd.fst.snd.snd.fst, y.snd.fst.snd.snd.snd.fst, ()), (Ex.mk (Ex.kind x2f0) (Ex.vk x2f0) (Ex.vn x2f0) (Ex.vs x2f0) (Ex.var x2f0) (Ex.fld x2f0) (Ex.kids x2f0), ()), IntKind.i64.wrap (x7 + 1), ()) else some (Sum.inl ((x0f0, x0f1, x0f2, x0f3, ()), (Ex.mk (Ex.kind x2f0) (Ex.vk x2f0) (Ex.vn x2f0) (Ex.vs x2f0) (Ex.var x2f0) (Ex.fld x2f0) (Ex.kids x2f0), ()), ()))) := by kernel_rfl
theorem E109_0_eq (k j : Nat) (s109 : shsDen I109 → Option (shsDen O109 × shsDen (shsUpd I109))) (x0f0 : Ty.den T70) (x0f1 : Ty.den T3) (x0f2 : Ty.den T4) (x0f3 : Ty.den T3) (x2f0 : Ty.den T84) (x3f0 : Ty.den T84) : E109_0 k s109 (j + 1) ((x0f0, x0f1, x0f2, x0f3, ()), (x2f0, ()), (x3f0, ()), ()) = (
  bif !x0f2 then (F85 k ((x0f0, x0f1, x0f2, x0f3, ()), 4, { data := #[43] : ByteArray }, ())).bind fun y => bif y.fst.fst then (G122 k s109 ((y.snd.fst.fst, y.snd.fst.snd.fst, y.snd.fst.snd.snd.fst, y.snd.fst.snd.snd.snd.fst, ()), ())).bind fun y => E109_0 k s109 j ((y.snd.fst.fst, y.snd.fst.snd.fst, y.snd.fst.snd.snd.fst, y.snd.fst.snd.snd.snd.fst, ()), (Ex.mk (Ex.kind x2f0) (Ex.vk x2f0) (Ex.vn x2f0) (Ex.vs x2f0) (Ex.var x2f0) (Ex.fld x2f0) (Ex.kids x2f0), ()), (Ex.mk 7 0 0 { data := #[] : ByteArray } { data := #[] : ByteArray } { data := #[] : ByteArray } [Ex.mk (Ex.kind x3f0) (Ex.vk x3f0) (Ex.vn x3f0) (Ex.vs x3f0) (Ex.var x3f0) (Ex.fld x3f0) (Ex.kids x3f0), Ex.mk (Ex.kind y.fst.fst) (Ex.vk y.fst.fst) (Ex.vn y.fst.fst) (Ex.vs y.fst.fst) (Ex.var y.fst.fst) (Ex.fld y.fst.fst) (Ex.kids y.fst.fst)], ()), ()) else (F85 k ((y.snd.fst.fst, y.snd.fst.snd.fst, y.snd.fst.snd.snd.fst, y.snd.fst.snd.snd.snd.fst, ()), 4, { data := #[45] : ByteArray }, ())).bind fun y => bif y.fst.fst then (G122 k s109 ((y.snd.fst.fst, y.snd.fst.snd.fst, y.snd.fst.snd.snd.fst, y.snd.fst.snd.snd.snd.fst, ()), ())).bind fun y => E109_0 k s109 j ((y.snd.fst.fst, y.snd.fst.snd.fst, y.snd.fst.snd.snd.fst, y.snd.fst.snd.snd.snd.fst, ()), (Ex.mk (Ex.kind x2f0) (Ex.vk x2f0) (Ex.vn x2f0) (Ex.vs x2f0) (Ex.var x2f0) (Ex.fld x2f0) (Ex.kids x2f0), ()), (Ex.mk 8 0 0 { data := #[] : ByteArray } { data := #[] : ByteArray } { data := #[] : ByteArray } [Ex.mk (Ex.kind x3f0) (Ex.vk x3f0) (Ex.vn x3f0) (Ex.vs x3f0) (Ex.var x3f0) (Ex.fld x3f0) (Ex.kids x3f0), Ex.mk (Ex.kind y.fst.fst) (Ex.vk y.fst.fst) (Ex.vn y.fst.fst) (Ex.vs y.fst.fst) (Ex.var y.fst.fst) (Ex.fld y.fst.fst) (Ex.kids y.fst.fst)], ()), ()) else some (Sum.inl ((y.snd.fst.fst, y.snd.fst.snd.fst, y.snd.fst.snd.snd.fst, y.snd.fst.snd.snd.snd.fst, ()), (Ex.mk (Ex.kind x2f0) (Ex.vk x2f0) (Ex.vn x2f0) (Ex.vs x2f0) (Ex.var x2f0) (Ex.fld x2f0) (Ex.kids x2f0), ()), (Ex.mk (Ex.kind x3f0) (Ex.vk x3f0) (Ex.vn x3f0) (Ex.vs x3f0) (Ex.var x3f0) (Ex.fld x3f0) (Ex.kids x3f0), ()), ())) else some (Sum.inl ((x0f0, x0f1, x0f2, x0f3, ()), (Ex.mk (Ex.kind x2f0) (Ex.vk x2f0) (Ex.vn x2f0) (Ex.vs x2f0) (Ex.var x2f0) (Ex.fld x2f0) (Ex.kids x2f0), ()), (Ex.mk (Ex.kind x3f0) (Ex.vk x3f0) (Ex.vn x3f0) (Ex.vs x3f0) (Ex.var x3f0) (Ex.fld x3f0) (Ex.kids x3f0), ()), ()))) := by kernel_rfl
theorem G109_eq (k : Nat) (s109 : shsDen I109 → Option (shsDen O109 × shsDen (shsUpd I109))) (x0f0 : Ty.den T70) (x0f1 : Ty.den T3) (x0f2 : Ty.den T4) (x0f3 : Ty.den T3) : G109 k s109 ((x0f0, x0f1, x0f2, x0f3, ()), ()) = (
(G122 k s109 ((x0f0, x0f1, x0f2, x0f3, ()), ())).bind fun y =>
  (E109_0 k s109 k ((y.snd.fst.fst, y.snd.fst.snd.fst, y.snd.fst.snd.snd.fst, y.snd.fst.snd.snd.snd.fst, ()), (Ex.mk 0 0 0 { data := #[] : ByteArray } { data := #[] : ByteArray } { data := #[] : ByteArray } [], ()), (Ex.mk (Ex.kind y.fst.fst) (Ex.vk y.fst.fst) (Ex.vn y.fst.fst) (Ex.vs y.fst.fst) (Ex.var y.fst.fst) (Ex.fld y.fst.fst) (Ex.kids y.fst.fst), ()), ())).bind fun y =>
    match y with
    | Sum.inl y => some ((Ex.mk (Ex.kind y.snd.snd.fst.fst) (Ex.vk y.snd.snd.fst.fst) (Ex.vn y.snd.snd.fst.fst) (Ex.vs y.snd.snd.fst.fst) (Ex.var y.snd.snd.fst.fst) (Ex.fld y.snd.snd.fst.fst) (Ex.kids y.snd.snd.fst.fst), ()), (y.fst.fst, y.fst.snd.fst, y.fst.snd.snd.fst, y.fst.snd.snd.snd.fst, ()), ())
    | Sum.inr y => nomatch y) := by kernel_rfl
theorem E86_0_eq (k j : Nat) (x0f0 : Ty.den T70) (x0f1 : Ty.den T3) (x0f2 : Ty.den T4) (x0f3 : Ty.den T3) (x2f0 : Ty.den T86) (x3f0 : Ty.den T86) (x4 : Ty.den T3) : E86_0 k (j + 1) ((x0f0, x0f1, x0f2, x0f3, ()), (x2f0, ()), (x3f0, ()), x4, ()) = (
  bif bif decide (x4 ≤ 6) then decide (x3f0.fst = 0) else false then (F110 k (x4, ())).bind fun y => (F85 k ((x0f0, x0f1, x0f2, x0f3, ()), 4, y.fst.fst, ())).bind fun y => bif y.fst.fst then E86_0 k j ((y.snd.fst.fst, y.snd.fst.snd.fst, y.snd.fst.snd.snd.fst, y.snd.fst.snd.snd.snd.fst, ()), ((x2f0.fst, Ex.mk (Ex.kind x2f0.snd.fst) (Ex.vk x2f0.snd.fst) (Ex.vn x2f0.snd.fst) (Ex.vs x2f0.snd.fst) (Ex.var x2f0.snd.fst) (Ex.fld x2f0.snd.fst) (Ex.kids x2f0.snd.fst), Ex.mk (Ex.kind x2f0.snd.snd) (Ex.vk x2f0.snd.snd) (Ex.vn x2f0.snd.snd) (Ex.vs x2f0.snd.snd) (Ex.var x2f0.snd.snd) (Ex.fld x2f0.snd.snd) (Ex.kids x2f0.snd.snd)), ()), ((x4, Ex.mk (Ex.kind x3f0.snd.fst) (Ex.vk x3f0.snd.fst) (Ex.vn x3f0.snd.fst) (Ex.vs x3f0.snd.fst) (Ex.var x3f0.snd.fst) (Ex.fld x3f0.snd.fst) (Ex.kids x3f0.snd.fst), Ex.mk (Ex.kind x3f0.snd.snd) (Ex.vk x3f0.snd.snd) (Ex.vn x3f0.snd.snd) (Ex.vs x3f0.snd.snd) (Ex.var x3f0.snd.snd) (Ex.fld x3f0.snd.snd) (Ex.kids x3f0.snd.snd)), ()), IntKind.i64.wrap (x4 + 1), ()) else E86_0 k j ((y.snd.fst.fst, y.snd.fst.snd.fst, y.snd.fst.snd.snd.fst, y.snd.fst.snd.snd.snd.fst, ()), ((x2f0.fst, Ex.mk (Ex.kind x2f0.snd.fst) (Ex.vk x2f0.snd.fst) (Ex.vn x2f0.snd.fst) (Ex.vs x2f0.snd.fst) (Ex.var x2f0.snd.fst) (Ex.fld x2f0.snd.fst) (Ex.kids x2f0.snd.fst), Ex.mk (Ex.kind x2f0.snd.snd) (Ex.vk x2f0.snd.snd) (Ex.vn x2f0.snd.snd) (Ex.vs x2f0.snd.snd) (Ex.var x2f0.snd.snd) (Ex.fld x2f0.snd.snd) (Ex.kids x2f0.snd.snd)), ()), ((x3f0.fst, Ex.mk (Ex.kind x3f0.snd.fst) (Ex.vk x3f0.snd.fst) (Ex.vn x3f0.snd.fst) (Ex.vs x3f0.snd.fst) (Ex.var x3f0.snd.fst) (Ex.fld x3f0.snd.fst) (Ex.kids x3f0.snd.fst), Ex.mk (Ex.kind x3f0.snd.snd) (Ex.vk x3f0.snd.snd) (Ex.vn x3f0.snd.snd) (Ex.vs x3f0.snd.snd) (Ex.var x3f0.snd.snd) (Ex.fld x3f0.snd.snd) (Ex.kids x3f0.snd.snd)), ()), IntKind.i64.wrap (x4 + 1), ()) else some (Sum.inl ((x0f0, x0f1, x0f2, x0f3, ()), ((x2f0.fst, Ex.mk (Ex.kind x2f0.snd.fst) (Ex.vk x2f0.snd.fst) (Ex.vn x2f0.snd.fst) (Ex.vs x2f0.snd.fst) (Ex.var x2f0.snd.fst) (Ex.fld x2f0.snd.fst) (Ex.kids x2f0.snd.fst), Ex.mk (Ex.kind x2f0.snd.snd) (Ex.vk x2f0.snd.snd) (Ex.vn x2f0.snd.snd) (Ex.vs x2f0.snd.snd) (Ex.var x2f0.snd.snd) (Ex.fld x2f0.snd.snd) (Ex.kids x2f0.snd.snd)), ()), ((x3f0.fst, Ex.mk (Ex.kind x3f0.snd.fst) (Ex.vk x3f0.snd.fst) (Ex.vn x3f0.snd.fst) (Ex.vs x3f0.snd.fst) (Ex.var x3f0.snd.fst) (Ex.fld x3f0.snd.fst) (Ex.kids x3f0.snd.fst), Ex.mk (Ex.kind x3f0.snd.snd) (Ex.vk x3f0.snd.snd) (Ex.vn x3f0.snd.snd) (Ex.vs x3f0.snd.snd) (Ex.var x3f0.snd.snd) (Ex.fld x3f0.snd.snd) (Ex.kids x3f0.snd.snd)), ()), ()))) := by kernel_rfl
theorem F86_eq (k : Nat) (x0f0 : Ty.den T70) (x0f1 : Ty.den T3) (x0f2 : Ty.den T4) (x0f3 : Ty.den T3) : F86 k ((x0f0, x0f1, x0f2, x0f3, ()), ()) = (
(F109 k ((x0f0, x0f1, x0f2, x0f3, ()), ())).bind fun y =>
  (E86_0 k k ((y.snd.fst.fst, y.snd.fst.snd.fst, y.snd.fst.snd.snd.fst, y.snd.fst.snd.snd.snd.fst, ()), ((0, Ex.mk 0 0 0 { data := #[] : ByteArray } { data := #[] : ByteArray } { data := #[] : ByteArray } [], Ex.mk 0 0 0 { data := #[] : ByteArray } { data := #[] : ByteArray } { data := #[] : ByteArray } []), ()), ((0, Ex.mk (Ex.kind y.fst.fst) (Ex.vk y.fst.fst) (Ex.vn y.fst.fst) (Ex.vs y.fst.fst) (Ex.var y.fst.fst) (Ex.fld y.fst.fst) (Ex.kids y.fst.fst), Ex.mk 0 0 0 { data := #[] : ByteArray } { data := #[] : ByteArray } { data := #[] : ByteArray } []), ()), 1, ())).bind fun y =>
    match y with
    | Sum.inl y => bif decide (y.snd.snd.fst.fst.fst = 0) then (F90 k ((y.fst.fst, y.fst.snd.fst, y.fst.snd.snd.fst, y.fst.snd.snd.snd.fst, ()), ())).bind fun y_1 => (F109 k ((y_1.snd.fst.fst, y_1.snd.fst.snd.fst, y_1.snd.fst.snd.snd.fst, y_1.snd.fst.snd.snd.snd.fst, ()), ())).bind fun y_2 => some (((y.snd.snd.fst.fst.fst, Ex.mk (Ex.kind y.snd.snd.fst.fst.snd.fst) (Ex.vk y.snd.snd.fst.fst.snd.fst) (Ex.vn y.snd.snd.fst.fst.snd.fst) (Ex.vs y.snd.snd.fst.fst.snd.fst) (Ex.var y.snd.snd.fst.fst.snd.fst) (Ex.fld y.snd.snd.fst.fst.snd.fst) (Ex.kids y.snd.snd.fst.fst.snd.fst), Ex.mk (Ex.kind y_2.fst.fst) (Ex.vk y_2.fst.fst) (Ex.vn y_2.fst.fst) (Ex.vs y_2.fst.fst) (Ex.var y_2.fst.fst) (Ex.fld y_2.fst.fst) (Ex.kids y_2.fst.fst)), ()), (y_2.snd.fst.fst, y_2.snd.fst.snd.fst, y_2.snd.fst.snd.snd.fst, y_2.snd.fst.snd.snd.snd.fst, ()), ()) else (F109 k ((y.fst.fst, y.fst.snd.fst, y.fst.snd.snd.fst, y.fst.snd.snd.snd.fst, ()), ())).bind fun y_1 => some (((y.snd.snd.fst.fst.fst, Ex.mk (Ex.kind y.snd.snd.fst.fst.snd.fst) (Ex.vk y.snd.snd.fst.fst.snd.fst) (Ex.vn y.snd.snd.fst.fst.snd.fst) (Ex.vs y.snd.snd.fst.fst.snd.fst) (Ex.var y.snd.snd.fst.fst.snd.fst) (Ex.fld y.snd.snd.fst.fst.snd.fst) (Ex.kids y.snd.snd.fst.fst.snd.fst), Ex.mk (Ex.kind y_1.fst.fst) (Ex.vk y_1.fst.fst) (Ex.vn y_1.fst.fst) (Ex.vs y_1.fst.fst) (Ex.var y_1.fst.fst) (Ex.fld y_1.fst.fst) (Ex.kids y_1.fst.fst)), ()), (y_1.snd.fst.fst, y_1.snd.fst.snd.fst, y_1.snd.fst.snd.snd.fst, y_1.snd.fst.snd.snd.snd.fst, ()), ())
    | Sum.inr y => nomatch y) := by kernel_rfl
theorem F89_eq (k : Nat) (x0 : Ty.den T3) : F89 k (x0, ()) = (
  bif inb x0 [{ data := #[] : ByteArray }, { data := #[97, 110, 121] : ByteArray }, { data := #[110, 101, 120, 116] : ByteArray }, { data := #[115, 116, 114, 105, 99, 116] : ByteArray }].length then bif inb x0 [{ data := #[] : ByteArray }, { data := #[97, 110, 121] : ByteArray }, { data := #[110, 101, 120, 116] : ByteArray }, { data := #[115, 116, 114, 105, 99, 116] : ByteArray }].length then some ((rd Ty.s [{ data := #[] : ByteArray }, { data := #[97, 110, 121] : ByteArray }, { data := #[110, 101, 120, 116] : ByteArray }, { data := #[115, 116, 114, 105, 99, 116] : ByteArray }] x0, ()), ()) else none else none) := by kernel_rfl
theorem E52_0_eq (k j : Nat) (x0f0 : Ty.den T70) (x0f1 : Ty.den T3) (x0f2 : Ty.den T4) (x0f3 : Ty.den T3) (x2f0 : Ty.den T53) (x3f0 : List (Ty.den T66)) (x3f1 : List (Ty.den T86)) (x3f2 : Ty.den T2) (x3f3 : Ty.den T9) (x3f4 : Ty.den T3) (x4 : Ty.den T4) : E52_0 k (j + 1) ((x0f0, x0f1, x0f2, x0f3, ()), (x2f0, ()), (x3f0, x3f1, x3f2, x3f3, x3f4, ()), x4, ()) = (
  bif x4 then (F84 k ((x0f0, x0f1, x0f2, x0f3, ()), ())).bind fun y => bif decide ((x3f0.length + [y.fst.fst].length) * (55 + 1) ≤ 140737488355328) then (F85 k ((y.snd.fst.fst, y.snd.fst.snd.fst, y.snd.fst.snd.snd.fst, y.snd.fst.snd.snd.snd.fst, ()), 1, { data := #[116, 104, 101, 110] : ByteArray }, ())).bind fun y_1 => E52_0 k j ((y_1.snd.fst.fst, y_1.snd.fst.snd.fst, y_1.snd.fst.snd.snd.fst, y_1.snd.fst.snd.snd.snd.fst, ()), (x2f0, ()), (x3f0 ++ [y.fst.fst], x3f1, x3f2, x3f3, x3f4, ()), y_1.fst.fst, ()) else none else some (Sum.inl ((x0f0, x0f1, x0f2, x0f3, ()), (x2f0, ()), (x3f0, x3f1, x3f2, x3f3, x3f4, ()), ()))) := by kernel_rfl
theorem E52_1_eq (k j : Nat) (x0f0 : Ty.den T70) (x0f1 : Ty.den T3) (x0f2 : Ty.den T4) (x0f3 : Ty.den T3) (x2f0 : Ty.den T53) (x3f0 : List (Ty.den T66)) (x3f1 : List (Ty.den T86)) (x3f2 : Ty.den T2) (x3f3 : Ty.den T9) (x3f4 : Ty.den T3) (x6 : Ty.den T4) : E52_1 k (j + 1) ((x0f0, x0f1, x0f2, x0f3, ()), (x2f0, ()), (x3f0, x3f1, x3f2, x3f3, x3f4, ()), x6, ()) = (
  bif x6 then (F86 k ((x0f0, x0f1, x0f2, x0f3, ()), ())).bind fun y => bif decide ((x3f1.length + [(y.fst.fst.fst, Ex.mk (Ex.kind y.fst.fst.snd.fst) (Ex.vk y.fst.fst.snd.fst) (Ex.vn y.fst.fst.snd.fst) (Ex.vs y.fst.fst.snd.fst) (Ex.var y.fst.fst.snd.fst) (Ex.fld y.fst.fst.snd.fst) (Ex.kids y.fst.fst.snd.fst), Ex.mk (Ex.kind y.fst.fst.snd.snd) (Ex.vk y.fst.fst.snd.snd) (Ex.vn y.fst.fst.snd.snd) (Ex.vs y.fst.fst.snd.snd) (Ex.var y.fst.fst.snd.snd) (Ex.fld y.fst.fst.snd.snd) (Ex.kids y.fst.fst.snd.snd))].length) * (199 + 1) ≤ 140737488355328) then (F85 k ((y.snd.fst.fst, y.snd.fst.snd.fst, y.snd.fst.snd.snd.fst, y.snd.fst.snd.snd.snd.fst, ()), 1, { data := #[97, 110, 100] : ByteArray }, ())).bind fun y_1 => E52_1 k j ((y_1.snd.fst.fst, y_1.snd.fst.snd.fst, y_1.snd.fst.snd.snd.fst, y_1.snd.fst.snd.snd.snd.fst, ()), (x2f0, ()), (x3f0, x3f1 ++ [(y.fst.fst.fst, Ex.mk (Ex.kind y.fst.fst.snd.fst) (Ex.vk y.fst.fst.snd.fst) (Ex.vn y.fst.fst.snd.fst) (Ex.vs y.fst.fst.snd.fst) (Ex.var y.fst.fst.snd.fst) (Ex.fld y.fst.fst.snd.fst) (Ex.kids y.fst.fst.snd.fst), Ex.mk (Ex.kind y.fst.fst.snd.snd) (Ex.vk y.fst.fst.snd.snd) (Ex.vn y.fst.fst.snd.snd) (Ex.vs y.fst.fst.snd.snd) (Ex.var y.fst.fst.snd.snd) (Ex.fld y.fst.fst.snd.snd) (Ex.kids y.fst.fst.snd.snd))], x3f2, x3f3, x3f4, ()), y_1.fst.fst, ()) else none else some (Sum.inl ((x0f0, x0f1, x0f2, x0f3, ()), (x2f0, ()), (x3f0, x3f1, x3f2, x3f3, x3f4, ()), ()))) := by kernel_rfl
theorem E52_2_eq (k j : Nat) (x0f0 : Ty.den T70) (x0f1 : Ty.den T3) (x0f2 : Ty.den T4) (x0f3 : Ty.den T3) (x2f0 : Ty.den T53) (x3f0 : List (Ty.den T66)) (x3f1 : List (Ty.den T86)) (x3f2 : Ty.den T2) (x3f3 : Ty.den T9) (x3f4 : Ty.den T3) (x8 : Ty.den T3) : E52_2 k (j + 1) ((x0f0, x0f1, x0f2, x0f3, ()), (x2f0, ()), (x3f0, x3f1, x3f2, x3f3, x3f4, ()), x8, ()) = (
  bif bif decide (x8 ≤ 3) then decide (x3f4 = 0) else false then (F89 k (x8, ())).bind fun y => (F85 k ((x0f0, x0f1, x0f2, x0f3, ()), 1, y.fst.fst, ())).bind fun y => bif y.fst.fst then E52_2 k j ((y.snd.fst.fst, y.snd.fst.snd.fst, y.snd.fst.snd.snd.fst, y.snd.fst.snd.snd.snd.fst, ()), (x2f0, ()), (x3f0, x3f1, x3f2, x3f3, x8, ()), IntKind.i64.wrap (x8 + 1), ()) else E52_2 k j ((y.snd.fst.fst, y.snd.fst.snd.fst, y.snd.fst.snd.snd.fst, y.snd.fst.snd.snd.snd.fst, ()), (x2f0, ()), (x3f0, x3f1, x3f2, x3f3, x3f4, ()), IntKind.i64.wrap (x8 + 1), ()) else some (Sum.inl ((x0f0, x0f1, x0f2, x0f3, ()), (x2f0, ()), (x3f0, x3f1, x3f2, x3f3, x3f4, ()), ()))) := by kernel_rfl
theorem F52_eq (k : Nat) (x0f0 : Ty.den T70) (x0f1 : Ty.den T3) (x0f2 : Ty.den T4) (x0f3 : Ty.den T3) : F52 k ((x0f0, x0f1, x0f2, x0f3, ()), ()) = (
(F83 k ((x0f0, x0f1, x0f2, x0f3, ()), 1, { data := #[115, 101, 113] : ByteArray }, ())).bind fun y =>
  (E52_0 k k ((y.snd.fst.fst, y.snd.fst.snd.fst, y.snd.fst.snd.snd.fst, y.snd.fst.snd.snd.snd.fst, ()), (([], [], 0, { data := #[] : ByteArray }, 0), ()), ([], [], 0, { data := #[] : ByteArray }, 1, ()), true, ())).bind fun y =>
    match y with
    | Sum.inl y =>
      (F85 k ((y.fst.fst, y.fst.snd.fst, y.fst.snd.snd.fst, y.fst.snd.snd.snd.fst, ()), 1, { data := #[119, 104, 101, 114, 101] : ByteArray }, ())).bind fun y_1 =>
        (E52_1 k k ((y_1.snd.fst.fst, y_1.snd.fst.snd.fst, y_1.snd.fst.snd.snd.fst, y_1.snd.fst.snd.snd.snd.fst, ()), (y.snd.fst.fst, ()), (y.snd.snd.fst.fst, y.snd.snd.fst.snd.fst, y.snd.snd.fst.snd.snd.fst, y.snd.snd.fst.snd.snd.snd.fst, y.snd.snd.fst.snd.snd.snd.snd.fst, ()), y_1.fst.fst, ())).bind fun y =>
          match y with
          | Sum.inl y =>
            (F83 k ((y.fst.fst, y.fst.snd.fst, y.fst.snd.snd.fst, y.fst.snd.snd.snd.fst, ()), 1, { data := #[119, 105, 116, 104, 105, 110] : ByteArray }, ())).bind fun y_2 =>
              (F87 k ((y_2.snd.fst.fst, y_2.snd.fst.snd.fst, y_2.snd.fst.snd.snd.fst, y_2.snd.fst.snd.snd.snd.fst, ()), ())).bind fun y_3 =>
                (F85 k ((y_3.snd.fst.fst, y_3.snd.fst.snd.fst, y_3.snd.fst.snd.snd.fst, y_3.snd.fst.snd.snd.snd.fst, ()), 1, { data := #[98, 121] : ByteArray }, ())).bind fun y_4 =>
                  bif y_4.fst.fst then
                    (F88 k ((y_4.snd.fst.fst, y_4.snd.fst.snd.fst, y_4.snd.fst.snd.snd.fst, y_4.snd.fst.snd.snd.snd.fst, ()), ())).bind fun y_5 =>
                      (F85 k ((y_5.snd.fst.fst, y_5.snd.fst.snd.fst, y_5.snd.fst.snd.snd.fst, y_5.snd.fst.snd.snd.snd.fst, ()), 1, { data := #[112, 105, 99, 107] : ByteArray }, ())).bind fun y_6 =>
                        bif y_6.fst.fst then
                          (E52_2 k k ((y_6.snd.fst.fst, y_6.snd.fst.snd.fst, y_6.snd.fst.snd.snd.fst, y_6.snd.fst.snd.snd.snd.fst, ()), (y.snd.fst.fst, ()), (y.snd.snd.fst.fst, y.snd.snd.fst.snd.fst, y_3.fst.fst, y_5.fst.fst, 0, ()), 1, ())).bind fun y =>
                            match y with
                            | Sum.inl y => bif decide (y.snd.snd.fst.snd.snd.snd.snd.fst = 0) then (F90 k ((y.fst.fst, y.fst.snd.fst, y.fst.snd.snd.fst, y.fst.snd.snd.snd.fst, ()), ())).bind fun y_7 => bif decide (y_7.snd.fst.snd.fst < (↑(List.length y_7.snd.fst.fst) : Int)) then (F90 k ((y_7.snd.fst.fst, y_7.snd.fst.snd.fst, y_7.snd.fst.snd.snd.fst, y_7.snd.fst.snd.snd.snd.fst, ()), ())).bind fun y_8 => some (((y.snd.snd.fst.fst, y.snd.snd.fst.snd.fst, y.snd.snd.fst.snd.snd.fst, y.snd.snd.fst.snd.snd.snd.fst, y.snd.snd.fst.snd.snd.snd.snd.fst), ()), (y_8.snd.fst.fst, y_8.snd.fst.snd.fst, y_8.snd.fst.snd.snd.fst, y_8.snd.fst.snd.snd.snd.fst, ()), ()) else some (((y.snd.snd.fst.fst, y.snd.snd.fst.snd.fst, y.snd.snd.fst.snd.snd.fst, y.snd.snd.fst.snd.snd.snd.fst, y.snd.snd.fst.snd.snd.snd.snd.fst), ()), (y_7.snd.fst.fst, y_7.snd.fst.snd.fst, y_7.snd.fst.snd.snd.fst, y_7.snd.fst.snd.snd.snd.fst, ()), ()) else bif decide (y.fst.snd.fst < (↑(List.length y.fst.fst) : Int)) then (F90 k ((y.fst.fst, y.fst.snd.fst, y.fst.snd.snd.fst, y.fst.snd.snd.snd.fst, ()), ())).bind fun y_7 => some (((y.snd.snd.fst.fst, y.snd.snd.fst.snd.fst, y.snd.snd.fst.snd.snd.fst, y.snd.snd.fst.snd.snd.snd.fst, y.snd.snd.fst.snd.snd.snd.snd.fst), ()), (y_7.snd.fst.fst, y_7.snd.fst.snd.fst, y_7.snd.fst.snd.snd.fst, y_7.snd.fst.snd.snd.snd.fst, ()), ()) else some (((y.snd.snd.fst.fst, y.snd.snd.fst.snd.fst, y.snd.snd.fst.snd.snd.fst, y.snd.snd.fst.snd.snd.snd.fst, y.snd.snd.fst.snd.snd.snd.snd.fst), ()), (y.fst.fst, y.fst.snd.fst, y.fst.snd.snd.fst, y.fst.snd.snd.snd.fst, ()), ())
                            | Sum.inr y => nomatch y
                        else bif decide (y_6.snd.fst.snd.fst < (↑(List.length y_6.snd.fst.fst) : Int)) then (F90 k ((y_6.snd.fst.fst, y_6.snd.fst.snd.fst, y_6.snd.fst.snd.snd.fst, y_6.snd.fst.snd.snd.snd.fst, ()), ())).bind fun y_7 => some (((y.snd.snd.fst.fst, y.snd.snd.fst.snd.fst, y_3.fst.fst, y_5.fst.fst, y.snd.snd.fst.snd.snd.snd.snd.fst), ()), (y_7.snd.fst.fst, y_7.snd.fst.snd.fst, y_7.snd.fst.snd.snd.fst, y_7.snd.fst.snd.snd.snd.fst, ()), ()) else some (((y.snd.snd.fst.fst, y.snd.snd.fst.snd.fst, y_3.fst.fst, y_5.fst.fst, y.snd.snd.fst.snd.snd.snd.snd.fst), ()), (y_6.snd.fst.fst, y_6.snd.fst.snd.fst, y_6.snd.fst.snd.snd.fst, y_6.snd.fst.snd.snd.snd.fst, ()), ())
                  else
                    (F85 k ((y_4.snd.fst.fst, y_4.snd.fst.snd.fst, y_4.snd.fst.snd.snd.fst, y_4.snd.fst.snd.snd.snd.fst, ()), 1, { data := #[112, 105, 99, 107] : ByteArray }, ())).bind fun y_5 =>
                      bif y_5.fst.fst then
                        (E52_2 k k ((y_5.snd.fst.fst, y_5.snd.fst.snd.fst, y_5.snd.fst.snd.snd.fst, y_5.snd.fst.snd.snd.snd.fst, ()), (y.snd.fst.fst, ()), (y.snd.snd.fst.fst, y.snd.snd.fst.snd.fst, y_3.fst.fst, y.snd.snd.fst.snd.snd.snd.fst, 0, ()), 1, ())).bind fun y =>
                          match y with
                          | Sum.inl y => bif decide (y.snd.snd.fst.snd.snd.snd.snd.fst = 0) then (F90 k ((y.fst.fst, y.fst.snd.fst, y.fst.snd.snd.fst, y.fst.snd.snd.snd.fst, ()), ())).bind fun y_6 => bif decide (y_6.snd.fst.snd.fst < (↑(List.length y_6.snd.fst.fst) : Int)) then (F90 k ((y_6.snd.fst.fst, y_6.snd.fst.snd.fst, y_6.snd.fst.snd.snd.fst, y_6.snd.fst.snd.snd.snd.fst, ()), ())).bind fun y_7 => some (((y.snd.snd.fst.fst, y.snd.snd.fst.snd.fst, y.snd.snd.fst.snd.snd.fst, y.snd.snd.fst.snd.snd.snd.fst, y.snd.snd.fst.snd.snd.snd.snd.fst), ()), (y_7.snd.fst.fst, y_7.snd.fst.snd.fst, y_7.snd.fst.snd.snd.fst, y_7.snd.fst.snd.snd.snd.fst, ()), ()) else some (((y.snd.snd.fst.fst, y.snd.snd.fst.snd.fst, y.snd.snd.fst.snd.snd.fst, y.snd.snd.fst.snd.snd.snd.fst, y.snd.snd.fst.snd.snd.snd.snd.fst), ()), (y_6.snd.fst.fst, y_6.snd.fst.snd.fst, y_6.snd.fst.snd.snd.fst, y_6.snd.fst.snd.snd.snd.fst, ()), ()) else bif decide (y.fst.snd.fst < (↑(List.length y.fst.fst) : Int)) then (F90 k ((y.fst.fst, y.fst.snd.fst, y.fst.snd.snd.fst, y.fst.snd.snd.snd.fst, ()), ())).bind fun y_6 => some (((y.snd.snd.fst.fst, y.snd.snd.fst.snd.fst, y.snd.snd.fst.snd.snd.fst, y.snd.snd.fst.snd.snd.snd.fst, y.snd.snd.fst.snd.snd.snd.snd.fst), ()), (y_6.snd.fst.fst, y_6.snd.fst.snd.fst, y_6.snd.fst.snd.snd.fst, y_6.snd.fst.snd.snd.snd.fst, ()), ()) else some (((y.snd.snd.fst.fst, y.snd.snd.fst.snd.fst, y.snd.snd.fst.snd.snd.fst, y.snd.snd.fst.snd.snd.snd.fst, y.snd.snd.fst.snd.snd.snd.snd.fst), ()), (y.fst.fst, y.fst.snd.fst, y.fst.snd.snd.fst, y.fst.snd.snd.snd.fst, ()), ())
                          | Sum.inr y => nomatch y
                      else bif decide (y_5.snd.fst.snd.fst < (↑(List.length y_5.snd.fst.fst) : Int)) then (F90 k ((y_5.snd.fst.fst, y_5.snd.fst.snd.fst, y_5.snd.fst.snd.snd.fst, y_5.snd.fst.snd.snd.snd.fst, ()), ())).bind fun y_6 => some (((y.snd.snd.fst.fst, y.snd.snd.fst.snd.fst, y_3.fst.fst, y.snd.snd.fst.snd.snd.snd.fst, y.snd.snd.fst.snd.snd.snd.snd.fst), ()), (y_6.snd.fst.fst, y_6.snd.fst.snd.fst, y_6.snd.fst.snd.snd.fst, y_6.snd.fst.snd.snd.snd.fst, ()), ()) else some (((y.snd.snd.fst.fst, y.snd.snd.fst.snd.fst, y_3.fst.fst, y.snd.snd.fst.snd.snd.snd.fst, y.snd.snd.fst.snd.snd.snd.snd.fst), ()), (y_5.snd.fst.fst, y_5.snd.fst.snd.fst, y_5.snd.fst.snd.snd.fst, y_5.snd.fst.snd.snd.snd.fst, ()), ())
          | Sum.inr y => nomatch y
    | Sum.inr y => nomatch y) := by kernel_rfl
theorem E91_0_0_eq (k j : Nat) (x1 : Ty.den T4) (x2f0 : Ty.den T66) (x5 : Ty.den T3) (x6 : Ty.den T3) : E91_0_0 k (j + 1) (x1, (x2f0, ()), x5, x6, ()) = (
  bif decide (x6 < x5) then bif inb x6 (List.length x2f0.snd.fst) then bif inb x5 (List.length x2f0.snd.fst) then bif decide (rd Ty.s x2f0.snd.fst x6 = rd Ty.s x2f0.snd.fst x5) then some (Sum.inr (Sum.inl (false, ()))) else E91_0_0 k j (x1, (x2f0, ()), x5, IntKind.i64.wrap (x6 + 1), ()) else none else none else some (Sum.inl (x1, (x2f0, ()), x5, ()))) := by kernel_rfl
theorem E91_0_eq (k j : Nat) (x1 : Ty.den T4) (x2f0 : Ty.den T66) (x5 : Ty.den T3) : E91_0 k (j + 1) (x1, (x2f0, ()), x5, ()) = (
  bif decide (x5 < (↑(List.length x2f0.snd.fst) : Int)) then
  bif inb x5 (List.length x2f0.snd.fst) then
    (F29 k (rd Ty.s x2f0.snd.fst x5, ())).bind fun y =>
      bif !y.fst.fst then some (Sum.inr (Sum.inl (false, ())))
      else
        (E91_0_0 k k (x1, (x2f0, ()), x5, 0, ())).bind fun y =>
          match y with
          | Sum.inl y => E91_0 k j (y.fst, (y.snd.fst.fst, ()), IntKind.i64.wrap (y.snd.snd.fst + 1), ())
          | Sum.inr y =>
            match y with
            | Sum.inl y => some (Sum.inr (Sum.inl (y.fst, ())))
            | Sum.inr y => nomatch y
  else none
  else some (Sum.inl (x1, (x2f0, ()), ()))) := by kernel_rfl
theorem F91_eq (k : Nat) (x0 : Ty.den T66) (x1 : Ty.den T4) : F91 k (x0, x1, ()) = (
(F29 k (x0.snd.snd.fst, ())).bind fun y =>
  bif bif bif bif bif !y.fst.fst then true else decide ((↑(List.length x0.snd.fst) : Int) < 1) then true else decide (3 < (↑(List.length x0.snd.fst) : Int)) then true else decide (x0.snd.snd.snd < 1) then true else decide (3 < x0.snd.snd.snd) then some ((false, ()), ())
  else
    (E91_0 k k (x1, (x0, ()), 0, ())).bind fun y =>
      match y with
      | Sum.inl y => bif bif y.fst then bif y.snd.fst.fst.fst then true else decide (y.snd.fst.fst.snd.snd.snd = 3) else false then some ((false, ()), ()) else some ((bif !y.snd.fst.fst.fst then true else decide (y.snd.fst.fst.snd.snd.snd = 1), ()), ())
      | Sum.inr y =>
        match y with
        | Sum.inl y => some ((y.fst, ()), ())
        | Sum.inr y => nomatch y) := by kernel_rfl
theorem F112_eq (k : Nat) (x0 : Ty.den T81) : F112 k (x0, ()) = (
  bif decide (x0.fst = 1) then some ((bif bif decide (-1099511627776 ≤ x0.snd.fst) then decide (x0.snd.fst ≤ 1099511627776) else false then decide (x0.snd.snd = { data := #[] : ByteArray }) else false, ()), ()) else bif decide (x0.fst = 2) then some ((bif decide (x0.snd.fst = 0) then decide ((↑(ByteArray.size x0.snd.snd) : Int) ≤ 64) else false, ()), ()) else bif decide (x0.fst = 3) then some ((bif bif decide (0 ≤ x0.snd.fst) then decide (x0.snd.fst ≤ 1) else false then decide (x0.snd.snd = { data := #[] : ByteArray }) else false, ()), ()) else some ((false, ()), ())) := by kernel_rfl
theorem E92_0_eq (k j : Nat) (s92 : shsDen I92 → Option (shsDen O92 × shsDen (shsUpd I92))) (x2f0 : Ty.den T84) (x7 : Ty.den T3) : E92_0 k s92 (j + 1) ((x2f0, ()), x7, ()) = (
  let t0 : Bool := (bif decide ((↑(bt (Ex.vs x2f0) x7).toNat : Int) < 32) then true else decide (126 < (↑(bt (Ex.vs x2f0) x7).toNat : Int)));
  bif decide (x7 < (↑(Ex.vs x2f0).size : Int)) then bif inb x7 (Ex.vs x2f0).size then bif bif !decide ((↑(bt (Ex.vs x2f0) x7).toNat : Int) < 32) then inb x7 (Ex.vs x2f0).size else true then bif bif !t0 then inb x7 (Ex.vs x2f0).size else true then bif bif t0 then true else decide ((↑(bt (Ex.vs x2f0) x7).toNat : Int) = 39) then some (Sum.inr (Sum.inl (false, ()))) else E92_0 k s92 j ((Ex.mk (Ex.kind x2f0) (Ex.vk x2f0) (Ex.vn x2f0) (Ex.vs x2f0) (Ex.var x2f0) (Ex.fld x2f0) (Ex.kids x2f0), ()), IntKind.i64.wrap (x7 + 1), ()) else none else none else none else some (Sum.inl ((Ex.mk (Ex.kind x2f0) (Ex.vk x2f0) (Ex.vn x2f0) (Ex.vs x2f0) (Ex.var x2f0) (Ex.fld x2f0) (Ex.kids x2f0), ()), ()))) := by kernel_rfl
theorem G92_eq (k : Nat) (s92 : shsDen I92 → Option (shsDen O92 × shsDen (shsUpd I92))) (x0 : Ty.den T84) (x1 : Ty.den T3) : G92 k s92 (x0, x1, ()) = (
  bif bif bif decide (x1 < 1) then true else bif !bif decide (Ex.kind x0 = 7) then true else decide (Ex.kind x0 = 8) then decide (0 < (↑(Ex.kids x0).length : Int)) else false then true else bif !decide (Ex.kind x0 = 1) then !(decide (Ex.vk x0 = 0) && (decide (Ex.vn x0 = 0) && (decide (Ex.vs x0 = { data := #[] : ByteArray }) && true))) else false then some ((false, ()), ())
  else
  bif bif bif bif decide (Ex.kind x0 = 2) then true else decide (Ex.kind x0 = 4) then true else decide (Ex.kind x0 = 5) then true else decide (Ex.kind x0 = 6) then (F29 k (Ex.var x0, ())).bind fun y => (bif y.fst.fst then F29 k (Ex.fld x0, ()) else some ((Ty.b.dflt, ()), ())).bind fun y_1 => some ((bif y.fst.fst then y_1.fst.fst else false, ()), ())
  else
    bif decide (Ex.kind x0 = 3) then (F29 k (Ex.var x0, ())).bind fun y => some ((bif y.fst.fst then decide (Ex.fld x0 = { data := #[] : ByteArray }) else false, ()), ())
    else
      bif bif !decide (Ex.var x0 = { data := #[] : ByteArray }) then true else !decide (Ex.fld x0 = { data := #[] : ByteArray }) then some ((false, ()), ())
      else
        bif bif decide (Ex.kind x0 = 7) then true else decide (Ex.kind x0 = 8) then bif bif decide ((↑(Ex.kids x0).length : Int) = 2) then inb 0 (Ex.kids x0).length else true then (bif decide ((↑(Ex.kids x0).length : Int) = 2) then s92 (Ex.mk (Ex.kind (rd Ty.ex (Ex.kids x0) 0)) (Ex.vk (rd Ty.ex (Ex.kids x0) 0)) (Ex.vn (rd Ty.ex (Ex.kids x0) 0)) (Ex.vs (rd Ty.ex (Ex.kids x0) 0)) (Ex.var (rd Ty.ex (Ex.kids x0) 0)) (Ex.fld (rd Ty.ex (Ex.kids x0) 0)) (Ex.kids (rd Ty.ex (Ex.kids x0) 0)), IntKind.i64.wrap (x1 - 1), ()) else some ((Ty.b.dflt, ()), ())).bind fun y => bif bif bif decide ((↑(Ex.kids x0).length : Int) = 2) then y.fst.fst else false then inb 1 (Ex.kids x0).length else true then (bif bif decide ((↑(Ex.kids x0).length : Int) = 2) then y.fst.fst else false then s92 (Ex.mk (Ex.kind (rd Ty.ex (Ex.kids x0) 1)) (Ex.vk (rd Ty.ex (Ex.kids x0) 1)) (Ex.vn (rd Ty.ex (Ex.kids x0) 1)) (Ex.vs (rd Ty.ex (Ex.kids x0) 1)) (Ex.var (rd Ty.ex (Ex.kids x0) 1)) (Ex.fld (rd Ty.ex (Ex.kids x0) 1)) (Ex.kids (rd Ty.ex (Ex.kids x0) 1)), IntKind.i64.wrap (x1 - 1), ()) else some ((Ty.b.dflt, ()), ())).bind fun y_1 => some ((bif bif decide ((↑(Ex.kids x0).length : Int) = 2) then y.fst.fst else false then y_1.fst.fst else false, ()), ()) else none else none
        else
          (E92_0 k s92 k ((Ex.mk (Ex.kind x0) (Ex.vk x0) (Ex.vn x0) (Ex.vs x0) (Ex.var x0) (Ex.fld x0) (Ex.kids x0), ()), 0, ())).bind fun y =>
            match y with
            | Sum.inl y => (bif decide (Ex.kind y.fst.fst = 1) then F112 k ((Ex.vk y.fst.fst, Ex.vn y.fst.fst, Ex.vs y.fst.fst), ()) else some ((Ty.b.dflt, ()), ())).bind fun y_1 => some ((bif decide (Ex.kind y.fst.fst = 1) then y_1.fst.fst else false, ()), ())
            | Sum.inr y =>
              match y with
              | Sum.inl y => some ((y.fst, ()), ())
              | Sum.inr y => nomatch y) := by kernel_rfl
theorem E53_0_0_eq (k j : Nat) (x1f0 : Ty.den T53) (x3 : Ty.den T3) (x4 : Ty.den T3) : E53_0_0 k (j + 1) ((x1f0, ()), x3, x4, ()) = (
  bif decide (x4 < x3) then bif inb x4 (List.length x1f0.fst) then bif inb x3 (List.length x1f0.fst) then bif decide ((rd (Ty.b.p (Ty.s.l.p (Ty.s.p (Ty.i IntKind.i64)))) x1f0.fst x4).snd.snd.fst = (rd (Ty.b.p (Ty.s.l.p (Ty.s.p (Ty.i IntKind.i64)))) x1f0.fst x3).snd.snd.fst) then some (Sum.inr (Sum.inl (false, ()))) else E53_0_0 k j ((x1f0, ()), x3, IntKind.i64.wrap (x4 + 1), ()) else none else none else some (Sum.inl ((x1f0, ()), x3, ()))) := by kernel_rfl
theorem E53_0_eq (k j : Nat) (x1f0 : Ty.den T53) (x3 : Ty.den T3) : E53_0 k (j + 1) ((x1f0, ()), x3, ()) = (
  bif decide (x3 < (↑(List.length x1f0.fst) : Int)) then
  bif inb x3 (List.length x1f0.fst) then
    (F91 k (rd (Ty.b.p (Ty.s.l.p (Ty.s.p (Ty.i IntKind.i64)))) x1f0.fst x3, decide (x3 = 0), ())).bind fun y =>
      bif !y.fst.fst then some (Sum.inr (Sum.inl (false, ())))
      else
        (E53_0_0 k k ((x1f0, ()), x3, 0, ())).bind fun y =>
          match y with
          | Sum.inl y => E53_0 k j ((y.fst.fst, ()), IntKind.i64.wrap (y.snd.fst + 1), ())
          | Sum.inr y =>
            match y with
            | Sum.inl y => some (Sum.inr (Sum.inl (y.fst, ())))
            | Sum.inr y => nomatch y
  else none
  else some (Sum.inl ((x1f0, ()), ()))) := by kernel_rfl
theorem E53_1_eq (k j : Nat) (x1f0 : Ty.den T53) (x5 : Ty.den T3) : E53_1 k (j + 1) ((x1f0, ()), x5, ()) = (
  let t0 : Bool := (bif decide ((rd ((Ty.i IntKind.i64).p (Ty.ex.p Ty.ex)) x1f0.snd.fst x5).fst < 1) then true else decide (6 < (rd ((Ty.i IntKind.i64).p (Ty.ex.p Ty.ex)) x1f0.snd.fst x5).fst));
  bif decide (x5 < (↑(List.length x1f0.snd.fst) : Int)) then bif inb x5 (List.length x1f0.snd.fst) then (bif !t0 then F92 k (Ex.mk (Ex.kind (rd ((Ty.i IntKind.i64).p (Ty.ex.p Ty.ex)) x1f0.snd.fst x5).snd.fst) (Ex.vk (rd ((Ty.i IntKind.i64).p (Ty.ex.p Ty.ex)) x1f0.snd.fst x5).snd.fst) (Ex.vn (rd ((Ty.i IntKind.i64).p (Ty.ex.p Ty.ex)) x1f0.snd.fst x5).snd.fst) (Ex.vs (rd ((Ty.i IntKind.i64).p (Ty.ex.p Ty.ex)) x1f0.snd.fst x5).snd.fst) (Ex.var (rd ((Ty.i IntKind.i64).p (Ty.ex.p Ty.ex)) x1f0.snd.fst x5).snd.fst) (Ex.fld (rd ((Ty.i IntKind.i64).p (Ty.ex.p Ty.ex)) x1f0.snd.fst x5).snd.fst) (Ex.kids (rd ((Ty.i IntKind.i64).p (Ty.ex.p Ty.ex)) x1f0.snd.fst x5).snd.fst), 6, ()) else some ((Ty.b.dflt, ()), ())).bind fun y => (bif !bif t0 then true else !y.fst.fst then F92 k (Ex.mk (Ex.kind (rd ((Ty.i IntKind.i64).p (Ty.ex.p Ty.ex)) x1f0.snd.fst x5).snd.snd) (Ex.vk (rd ((Ty.i IntKind.i64).p (Ty.ex.p Ty.ex)) x1f0.snd.fst x5).snd.snd) (Ex.vn (rd ((Ty.i IntKind.i64).p (Ty.ex.p Ty.ex)) x1f0.snd.fst x5).snd.snd) (Ex.vs (rd ((Ty.i IntKind.i64).p (Ty.ex.p Ty.ex)) x1f0.snd.fst x5).snd.snd) (Ex.var (rd ((Ty.i IntKind.i64).p (Ty.ex.p Ty.ex)) x1f0.snd.fst x5).snd.snd) (Ex.fld (rd ((Ty.i IntKind.i64).p (Ty.ex.p Ty.ex)) x1f0.snd.fst x5).snd.snd) (Ex.kids (rd ((Ty.i IntKind.i64).p (Ty.ex.p Ty.ex)) x1f0.snd.fst x5).snd.snd), 6, ()) else some ((Ty.b.dflt, ()), ())).bind fun y_1 => bif bif bif t0 then true else !y.fst.fst then true else !y_1.fst.fst then some (Sum.inr (Sum.inl (false, ()))) else E53_1 k j ((x1f0, ()), IntKind.i64.wrap (x5 + 1), ()) else none else some (Sum.inl ((x1f0, ()), ()))) := by kernel_rfl
theorem F53_eq (k : Nat) (x0 : Ty.den T53) : F53 k (x0, ()) = (
  bif bif bif decide ((↑(List.length x0.fst) : Int) < 1) then true else decide (6 < (↑(List.length x0.fst) : Int)) then true else decide (8 < (↑(List.length x0.snd.fst) : Int)) then some ((false, ()), ())
  else
  (E53_0 k k ((x0, ()), 0, ())).bind fun y =>
    match y with
    | Sum.inl y =>
      (E53_1 k k ((y.fst.fst, ()), 0, ())).bind fun y =>
        match y with
        | Sum.inl y => (bif (bif decide (0 ≤ y.fst.fst.snd.snd.fst) then decide (y.fst.fst.snd.snd.fst ≤ 1099511627776) else false) && !decide (y.fst.fst.snd.snd.snd.fst = { data := #[] : ByteArray }) then F29 k (y.fst.fst.snd.snd.snd.fst, ()) else some ((Ty.b.dflt, ()), ())).bind fun y_1 => some ((bif bif bif bif decide (0 ≤ y.fst.fst.snd.snd.fst) then decide (y.fst.fst.snd.snd.fst ≤ 1099511627776) else false then bif decide (y.fst.fst.snd.snd.snd.fst = { data := #[] : ByteArray }) then true else y_1.fst.fst else false then decide (1 ≤ y.fst.fst.snd.snd.snd.snd) else false then decide (y.fst.fst.snd.snd.snd.snd ≤ 3) else false, ()), ())
        | Sum.inr y =>
          match y with
          | Sum.inl y => some ((y.fst, ()), ())
          | Sum.inr y => nomatch y
    | Sum.inr y =>
      match y with
      | Sum.inl y => some ((y.fst, ()), ())
      | Sum.inr y => nomatch y) := by kernel_rfl
theorem F37_eq (k : Nat) (x0 : Ty.den T9) : F37 k (x0, ()) = (
(F51 k (x0, ())).bind fun y => bif !decide (y.fst.snd.fst = 0) then some ((([], [], 0, { data := #[] : ByteArray }, 0), y.fst.snd.fst, y.fst.snd.snd.fst, ()), ()) else (F52 k ((y.fst.fst, 0, false, 0, ()), ())).bind fun y_1 => bif y_1.snd.fst.snd.snd.fst then bif decide (y_1.snd.fst.snd.fst < (↑(List.length y.fst.fst) : Int)) then bif inb y_1.snd.fst.snd.fst (List.length y.fst.fst) then none else none else some ((([], [], 0, { data := #[] : ByteArray }, 0), 81, (↑(ByteArray.size x0) : Int), ()), ()) else (F53 k (y_1.fst.fst, ())).bind fun y => bif !y.fst.fst then some ((([], [], 0, { data := #[] : ByteArray }, 0), 2, 0, ()), ()) else some ((y_1.fst.fst, 0, 0, ()), ())) := by kernel_rfl
theorem F22_eq (k : Nat) (x0 : Ty.den T9) (x1 : Ty.den T9) : F22 k (x0, x1, ()) = (
(F37 k (x1, ())).bind fun y => some (((x0, [(0, false, y.fst.fst)]), ()), ())) := by kernel_rfl
theorem E26_0_eq (k j : Nat) (x0 : Ty.den T9) (x6 : Ty.den T3) (x7 : Ty.den T3) : E26_0 k (j + 1) (x0, x6, x7, ()) = (
  bif decide (x7 < x6) then bif inb x7 (ByteArray.size x0) then bif bif decide (97 ≤ (↑(bt x0 x7).toNat : Int)) then decide ((↑(bt x0 x7).toNat : Int) ≤ 122) else false then E26_0 k j (x0, x6, IntKind.i64.wrap (x7 + 1), ()) else bif bif decide (0 < x7) then bif decide ((↑(bt x0 x7).toNat : Int) = 95) then true else bif decide (48 ≤ (↑(bt x0 x7).toNat : Int)) then decide ((↑(bt x0 x7).toNat : Int) ≤ 57) else false else false then E26_0 k j (x0, x6, IntKind.i64.wrap (x7 + 1), ()) else some (Sum.inr (Sum.inl (false, ()))) else none else some (Sum.inl (x0, ()))) := by kernel_rfl
theorem F26_eq (k : Nat) (x0 : Ty.den T9) : F26 k (x0, ()) = (
(E26_0 k k (x0, (↑(ByteArray.size x0) : Int), 0, ())).bind fun y =>
  match y with
  | Sum.inl y => some ((bif !decide (y.fst = { data := #[] : ByteArray }) then decide ((↑(ByteArray.size y.fst) : Int) ≤ 16) else false, ()), ())
  | Sum.inr y =>
    match y with
    | Sum.inl y => some ((y.fst, ()), ())
    | Sum.inr y => nomatch y) := by kernel_rfl
theorem F27_eq (k : Nat) (x0 : Ty.den T9) : F27 k (x0, ()) = (
(bif !decide (x0 = { data := #[] : ByteArray }) then F40 k (x0, { data := #[32] : ByteArray }, ()) else some ((Ty.b.dflt, ()), ())).bind fun y => bif bif bif !decide (x0 = { data := #[] : ByteArray }) then !y.fst.fst else false then decide ({ data := #[32] : ByteArray }.size + ByteArray.size x0 ≤ 9223372036854775807) else true then bif bif bif !decide (x0 = { data := #[] : ByteArray }) then !y.fst.fst else false then decide (({ data := #[32] : ByteArray } ++ x0).size + { data := #[32] : ByteArray }.size ≤ 9223372036854775807) else true then (bif bif !decide (x0 = { data := #[] : ByteArray }) then !y.fst.fst else false then F40 k ({ data := ([32, 115, 101, 113, 32, 116, 104, 101, 110, 32, 110, 111, 116, 32, 111, 114, 32, 119, 104, 101, 114, 101, 32, 97, 110, 100, 32, 119, 105, 116, 104, 105, 110, 32, 98, 121, 32, 112, 105, 99, 107, 32, 97].append [110, 121, 32, 110, 101, 120, 116, 32, 115, 116, 114, 105, 99, 116, 32, 116, 114, 117, 101, 32, 102, 97, 108, 115, 101, 32, 99, 111, 117, 110, 116, 32, 115, 117, 109, 32, 109, 105, 110, 32, 109, 97, 120, 32]).toArray : ByteArray }, { data := #[32] : ByteArray } ++ x0 ++ { data := #[32] : ByteArray }, ()) else some ((Ty.b.dflt, ()), ())).bind fun y_1 => some ((bif bif !decide (x0 = { data := #[] : ByteArray }) then !y.fst.fst else false then y_1.fst.fst else false, ()), ()) else none else none) := by kernel_rfl
theorem F61_eq (k : Nat) (x0 : Ty.den T53) : F61 k (x0, ()) = (
  some ((bif bif bif decide (IntKind.i64.wrap ((↑(List.length x0.fst) : Int) + (↑(List.length x0.snd.fst) : Int)) = 0) then decide (x0.snd.snd.fst = 0) else false then decide (x0.snd.snd.snd.fst = { data := #[] : ByteArray }) else false then decide (x0.snd.snd.snd.snd = 0) else false, ()), ())) := by kernel_rfl
theorem F99_eq (k : Nat) (x0 : Ty.den T9) : F99 k (x0, ()) = (
(F26 k (x0, ())).bind fun y => (bif y.fst.fst then F27 k (x0, ()) else some ((Ty.b.dflt, ()), ())).bind fun y_1 => some ((bif y.fst.fst then !y_1.fst.fst else false, ()), ())) := by kernel_rfl
theorem E97_0_eq (k j : Nat) (x1 : Ty.den T3) (x2f0 : Ty.den T66) (x5 : List (ByteArray × Int)) (x10 : Ty.den T64) (x11 : Ty.den T3) (x12 : Ty.den T3) : E97_0 k (j + 1) (x1, (x2f0, ()), x5, x10, x11, x12, ()) = (
  bif decide (x12 < x11) then
  bif inb x12 (List.length x10) then
    (bif
            !decide
                (1 <
                  match
                    mpGet (rd Ty.s x10 x12)
                      (mpPut (rd Ty.s x10 x12)
                        (IntKind.i64.wrap
                          ((match mpGet (rd Ty.s x10 x12) x5 with
                            | some n => n
                            | none => 0) +
                            1))
                        x5) with
                  | some n => n
                  | none => 0) then
          F99 k (rd Ty.s x10 x12, ())
        else some ((Ty.b.dflt, ()), ())).bind
      fun y =>
      bif
          bif
              decide
                (1 <
                  match
                    mpGet (rd Ty.s x10 x12)
                      (mpPut (rd Ty.s x10 x12)
                        (IntKind.i64.wrap
                          ((match mpGet (rd Ty.s x10 x12) x5 with
                            | some n => n
                            | none => 0) +
                            1))
                        x5) with
                  | some n => n
                  | none => 0) then
            true
          else !y.fst.fst then
        some (Sum.inr (Sum.inl (false, ())))
      else
        E97_0 k j
          (x1, (x2f0, ()),
            mpPut (rd Ty.s x10 x12)
              (IntKind.i64.wrap
                ((match mpGet (rd Ty.s x10 x12) x5 with
                  | some n => n
                  | none => 0) +
                  1))
              x5,
            x10, x11, IntKind.i64.wrap (x12 + 1), ())
  else none
  else some (Sum.inl (x1, (x2f0, ()), ()))) := by kernel_rfl
theorem F97_eq (k : Nat) (x0 : Ty.den T66) (x1 : Ty.den T3) : F97 k (x0, x1, ()) = (
(E97_0 k k (x1, (x0, ()), [], x0.snd.fst, (↑(List.length x0.snd.fst) : Int), 0, ())).bind fun y =>
  match y with
  | Sum.inl y => (F99 k (y.snd.fst.fst.snd.snd.fst, ())).bind fun y_1 => bif !y_1.fst.fst then bif !y_1.fst.fst then some ((false, ()), ()) else bif bif decide (y.fst = 0) then bif y.snd.fst.fst.fst then true else decide (y.snd.fst.fst.snd.snd.snd = 3) else false then bif bif decide (y.fst = 0) then bif y.snd.fst.fst.fst then true else decide (y.snd.fst.fst.snd.snd.snd = 3) else false then some ((false, ()), ()) else some ((true, ()), ()) else bif bif y.snd.fst.fst.fst then !decide (y.snd.fst.fst.snd.snd.snd = 1) else false then some ((false, ()), ()) else some ((true, ()), ()) else bif decide ((↑(List.length y.snd.fst.fst.snd.fst) : Int) = 0) then bif decide ((↑(List.length y.snd.fst.fst.snd.fst) : Int) = 0) then some ((false, ()), ()) else bif bif decide (y.fst = 0) then bif y.snd.fst.fst.fst then true else decide (y.snd.fst.fst.snd.snd.snd = 3) else false then bif bif decide (y.fst = 0) then bif y.snd.fst.fst.fst then true else decide (y.snd.fst.fst.snd.snd.snd = 3) else false then some ((false, ()), ()) else some ((true, ()), ()) else bif bif y.snd.fst.fst.fst then !decide (y.snd.fst.fst.snd.snd.snd = 1) else false then some ((false, ()), ()) else some ((true, ()), ()) else bif decide (3 < (↑(List.length y.snd.fst.fst.snd.fst) : Int)) then bif decide (3 < (↑(List.length y.snd.fst.fst.snd.fst) : Int)) then some ((false, ()), ()) else bif bif decide (y.fst = 0) then bif y.snd.fst.fst.fst then true else decide (y.snd.fst.fst.snd.snd.snd = 3) else false then bif bif decide (y.fst = 0) then bif y.snd.fst.fst.fst then true else decide (y.snd.fst.fst.snd.snd.snd = 3) else false then some ((false, ()), ()) else some ((true, ()), ()) else bif bif y.snd.fst.fst.fst then !decide (y.snd.fst.fst.snd.snd.snd = 1) else false then some ((false, ()), ()) else some ((true, ()), ()) else bif decide (y.snd.fst.fst.snd.snd.snd < 1) then bif decide (y.snd.fst.fst.snd.snd.snd < 1) then some ((false, ()), ()) else bif bif decide (y.fst = 0) then bif y.snd.fst.fst.fst then true else decide (y.snd.fst.fst.snd.snd.snd = 3) else false then bif bif decide (y.fst = 0) then bif y.snd.fst.fst.fst then true else decide (y.snd.fst.fst.snd.snd.snd = 3) else false then some ((false, ()), ()) else some ((true, ()), ()) else bif bif y.snd.fst.fst.fst then !decide (y.snd.fst.fst.snd.snd.snd = 1) else false then some ((false, ()), ()) else some ((true, ()), ()) else bif decide (3 < y.snd.fst.fst.snd.snd.snd) then some ((false, ()), ()) else bif bif decide (y.fst = 0) then bif y.snd.fst.fst.fst then true else decide (y.snd.fst.fst.snd.snd.snd = 3) else false then bif bif decide (y.fst = 0) then bif y.snd.fst.fst.fst then true else decide (y.snd.fst.fst.snd.snd.snd = 3) else false then some ((false, ()), ()) else some ((true, ()), ()) else bif bif y.snd.fst.fst.fst then !decide (y.snd.fst.fst.snd.snd.snd = 1) else false then some ((false, ()), ()) else some ((true, ()), ())
  | Sum.inr y =>
    match y with
    | Sum.inl y => some ((y.fst, ()), ())
    | Sum.inr y => nomatch y) := by kernel_rfl
theorem F117_eq (k : Nat) (x0 : Ty.den T81) : F117 k (x0, ()) = (
  bif decide (x0.fst = 1) then some ((bif bif decide (-1099511627776 ≤ x0.snd.fst) then decide (x0.snd.fst ≤ 1099511627776) else false then decide (x0.snd.snd = { data := #[] : ByteArray }) else false, ()), ()) else bif decide (x0.fst = 3) then some ((bif bif decide (0 ≤ x0.snd.fst) then decide (x0.snd.fst ≤ 1) else false then decide (x0.snd.snd = { data := #[] : ByteArray }) else false, ()), ()) else bif decide (x0.fst = 2) then some ((bif decide (x0.snd.fst = 0) then decide ((↑(ByteArray.size x0.snd.snd) : Int) ≤ 64) else false, ()), ()) else some ((false, ()), ())) := by kernel_rfl
theorem E118_0_eq (k j : Nat) (x0 : Ty.den T9) (x5 : Ty.den T3) (x6 : Ty.den T3) : E118_0 k (j + 1) (x0, x5, x6, ()) = (
  let t0 : Bool := (bif decide ((↑(bt x0 x6).toNat : Int) < 32) then true else decide (126 < (↑(bt x0 x6).toNat : Int)));
  bif decide (x6 < x5) then bif inb x6 (ByteArray.size x0) then bif bif !decide ((↑(bt x0 x6).toNat : Int) < 32) then inb x6 (ByteArray.size x0) else true then bif bif !t0 then inb x6 (ByteArray.size x0) else true then bif bif t0 then true else decide ((↑(bt x0 x6).toNat : Int) = 39) then some (Sum.inr (Sum.inl (false, ()))) else E118_0 k j (x0, x5, IntKind.i64.wrap (x6 + 1), ()) else none else none else none else some (Sum.inl ())) := by kernel_rfl
theorem F118_eq (k : Nat) (x0 : Ty.den T9) : F118 k (x0, ()) = (
(E118_0 k k (x0, (↑(ByteArray.size x0) : Int), 0, ())).bind fun y =>
  match y with
  | Sum.inl y => some ((true, ()), ())
  | Sum.inr y =>
    match y with
    | Sum.inl y => some ((y.fst, ()), ())
    | Sum.inr y => nomatch y) := by kernel_rfl
theorem G98_eq (k : Nat) (s98 : shsDen I98 → Option (shsDen O98 × shsDen (shsUpd I98))) (x0 : Ty.den T84) (x1 : Ty.den T3) : G98 k s98 (x0, x1, ()) = (
  let t0 : Bool := (bif bif decide (Ex.var x0 = { data := #[] : ByteArray }) then decide (Ex.fld x0 = { data := #[] : ByteArray }) else false then decide ((↑(Ex.kids x0).length : Int) = 0) else false);
  let t1 : Bool := (bif decide (Ex.vk x0 = 0) && (decide (Ex.vn x0 = 0) && (decide (Ex.vs x0 = { data := #[] : ByteArray }) && true)) then decide ((↑(Ex.kids x0).length : Int) = 0) else false);
  let t2 : Bool := (bif bif bif decide (Ex.var x0 = { data := #[] : ByteArray }) then decide (Ex.fld x0 = { data := #[] : ByteArray }) else false then decide (Ex.vk x0 = 0) && (decide (Ex.vn x0 = 0) && (decide (Ex.vs x0 = { data := #[] : ByteArray }) && true)) else false then decide ((↑(Ex.kids x0).length : Int) = 2) else false);
  let t3 : Bool := (bif t2 then inb 0 (Ex.kids x0).length else true);
  let t4 : Option (shsDen { ins := I99, outs := O99, F := F99 k : Spec }.outs × shsDen (shsUpd { ins := I99, outs := O99, F := F99 k : Spec }.ins)) := (bif t1 then F99 k (Ex.var x0, ()) else some ((Ty.b.dflt, ()), ()));
  let t5 : Option (shsDen { ins := I98, outs := O98, F := s98 : Spec }.outs × shsDen (shsUpd { ins := I98, outs := O98, F := s98 : Spec }.ins)) := (bif t2 then s98 (Ex.mk (Ex.kind (rd Ty.ex (Ex.kids x0) 0)) (Ex.vk (rd Ty.ex (Ex.kids x0) 0)) (Ex.vn (rd Ty.ex (Ex.kids x0) 0)) (Ex.vs (rd Ty.ex (Ex.kids x0) 0)) (Ex.var (rd Ty.ex (Ex.kids x0) 0)) (Ex.fld (rd Ty.ex (Ex.kids x0) 0)) (Ex.kids (rd Ty.ex (Ex.kids x0) 0)), IntKind.i64.wrap (x1 - 1), ()) else some ((Ty.b.dflt, ()), ()));
  bif decide (x1 = 0) then some ((false, ()), ()) else bif decide (Ex.kind x0 = 1) then (bif t0 then F117 k ((Ex.vk x0, Ex.vn x0, Ex.vs x0), ()) else some ((Ty.b.dflt, ()), ())).bind fun y => (bif bif t0 then y.fst.fst else false then F118 k (Ex.vs x0, ()) else some ((Ty.b.dflt, ()), ())).bind fun y_1 => some ((bif bif t0 then y.fst.fst else false then y_1.fst.fst else false, ()), ()) else bif decide (Ex.kind x0 = 3) then t4.bind fun y => some ((bif bif t1 then y.fst.fst else false then decide (Ex.fld x0 = { data := #[] : ByteArray }) else false, ()), ()) else bif bif decide (2 ≤ Ex.kind x0) then decide (Ex.kind x0 ≤ 6) else false then t4.bind fun y => (bif bif t1 then y.fst.fst else false then F99 k (Ex.fld x0, ()) else some ((Ty.b.dflt, ()), ())).bind fun y_1 => some ((bif bif t1 then y.fst.fst else false then y_1.fst.fst else false, ()), ()) else bif decide (Ex.kind x0 = 7) then bif decide (Ex.kind x0 = 7) then bif t3 then t5.bind fun y => bif bif bif t2 then y.fst.fst else false then inb 1 (Ex.kids x0).length else true then (bif bif t2 then y.fst.fst else false then s98 (Ex.mk (Ex.kind (rd Ty.ex (Ex.kids x0) 1)) (Ex.vk (rd Ty.ex (Ex.kids x0) 1)) (Ex.vn (rd Ty.ex (Ex.kids x0) 1)) (Ex.vs (rd Ty.ex (Ex.kids x0) 1)) (Ex.var (rd Ty.ex (Ex.kids x0) 1)) (Ex.fld (rd Ty.ex (Ex.kids x0) 1)) (Ex.kids (rd Ty.ex (Ex.kids x0) 1)), IntKind.i64.wrap (x1 - 1), ()) else some ((Ty.b.dflt, ()), ())).bind fun y_1 => some ((bif bif t2 then y.fst.fst else false then y_1.fst.fst else false, ()), ()) else none else none else some ((false, ()), ()) else bif decide (Ex.kind x0 = 8) then bif t3 then t5.bind fun y => bif bif bif t2 then y.fst.fst else false then inb 1 (Ex.kids x0).length else true then (bif bif t2 then y.fst.fst else false then s98 (Ex.mk (Ex.kind (rd Ty.ex (Ex.kids x0) 1)) (Ex.vk (rd Ty.ex (Ex.kids x0) 1)) (Ex.vn (rd Ty.ex (Ex.kids x0) 1)) (Ex.vs (rd Ty.ex (Ex.kids x0) 1)) (Ex.var (rd Ty.ex (Ex.kids x0) 1)) (Ex.fld (rd Ty.ex (Ex.kids x0) 1)) (Ex.kids (rd Ty.ex (Ex.kids x0) 1)), IntKind.i64.wrap (x1 - 1), ()) else some ((Ty.b.dflt, ()), ())).bind fun y_1 => some ((bif bif t2 then y.fst.fst else false then y_1.fst.fst else false, ()), ()) else none else none else some ((false, ()), ())) := by kernel_rfl
theorem E62_0_eq (k j : Nat) (x1f0 : Ty.den T53) (x3 : List (ByteArray × Int)) (x10 : Ty.den T50) (x11 : Ty.den T3) (x12 : Ty.den T3) : E62_0 k (j + 1) ((x1f0, ()), x3, x10, x11, x12, ()) = (
  bif decide (x12 < x11) then
  bif inb x12 (List.length x10) then
    (bif
            !decide
                (1 <
                  match
                    mpGet (rd (Ty.b.p (Ty.s.l.p (Ty.s.p (Ty.i IntKind.i64)))) x10 x12).snd.snd.fst
                      (mpPut (rd (Ty.b.p (Ty.s.l.p (Ty.s.p (Ty.i IntKind.i64)))) x10 x12).snd.snd.fst
                        (IntKind.i64.wrap
                          ((match mpGet (rd (Ty.b.p (Ty.s.l.p (Ty.s.p (Ty.i IntKind.i64)))) x10 x12).snd.snd.fst x3 with
                            | some n => n
                            | none => 0) +
                            1))
                        x3) with
                  | some n => n
                  | none => 0) then
          F97 k (rd (Ty.b.p (Ty.s.l.p (Ty.s.p (Ty.i IntKind.i64)))) x10 x12, x12, ())
        else some ((Ty.b.dflt, ()), ())).bind
      fun y =>
      bif
          bif
              decide
                (1 <
                  match
                    mpGet (rd (Ty.b.p (Ty.s.l.p (Ty.s.p (Ty.i IntKind.i64)))) x10 x12).snd.snd.fst
                      (mpPut (rd (Ty.b.p (Ty.s.l.p (Ty.s.p (Ty.i IntKind.i64)))) x10 x12).snd.snd.fst
                        (IntKind.i64.wrap
                          ((match mpGet (rd (Ty.b.p (Ty.s.l.p (Ty.s.p (Ty.i IntKind.i64)))) x10 x12).snd.snd.fst x3 with
                            | some n => n
                            | none => 0) +
                            1))
                        x3) with
                  | some n => n
                  | none => 0) then
            true
          else !y.fst.fst then
        some (Sum.inr (Sum.inl (false, ())))
      else
        E62_0 k j
          ((x1f0, ()),
            mpPut (rd (Ty.b.p (Ty.s.l.p (Ty.s.p (Ty.i IntKind.i64)))) x10 x12).snd.snd.fst
              (IntKind.i64.wrap
                ((match mpGet (rd (Ty.b.p (Ty.s.l.p (Ty.s.p (Ty.i IntKind.i64)))) x10 x12).snd.snd.fst x3 with
                  | some n => n
                  | none => 0) +
                  1))
              x3,
            x10, x11, IntKind.i64.wrap (x12 + 1), ())
  else none
  else some (Sum.inl ((x1f0, ()), ()))) := by kernel_rfl
theorem E62_1_eq (k j : Nat) (x1f0 : Ty.den T53) (x35 : Ty.den T51) (x36 : Ty.den T3) (x37 : Ty.den T3) : E62_1 k (j + 1) ((x1f0, ()), x35, x36, x37, ()) = (
  let t0 : Bool := (bif decide ((rd ((Ty.i IntKind.i64).p (Ty.ex.p Ty.ex)) x35 x37).fst < 1) then true else decide (6 < (rd ((Ty.i IntKind.i64).p (Ty.ex.p Ty.ex)) x35 x37).fst));
  bif decide (x37 < x36) then bif inb x37 (List.length x35) then (bif !t0 then F98 k (Ex.mk (Ex.kind (rd ((Ty.i IntKind.i64).p (Ty.ex.p Ty.ex)) x35 x37).snd.fst) (Ex.vk (rd ((Ty.i IntKind.i64).p (Ty.ex.p Ty.ex)) x35 x37).snd.fst) (Ex.vn (rd ((Ty.i IntKind.i64).p (Ty.ex.p Ty.ex)) x35 x37).snd.fst) (Ex.vs (rd ((Ty.i IntKind.i64).p (Ty.ex.p Ty.ex)) x35 x37).snd.fst) (Ex.var (rd ((Ty.i IntKind.i64).p (Ty.ex.p Ty.ex)) x35 x37).snd.fst) (Ex.fld (rd ((Ty.i IntKind.i64).p (Ty.ex.p Ty.ex)) x35 x37).snd.fst) (Ex.kids (rd ((Ty.i IntKind.i64).p (Ty.ex.p Ty.ex)) x35 x37).snd.fst), 6, ()) else some ((Ty.b.dflt, ()), ())).bind fun y => (bif !bif t0 then true else !y.fst.fst then F98 k (Ex.mk (Ex.kind (rd ((Ty.i IntKind.i64).p (Ty.ex.p Ty.ex)) x35 x37).snd.snd) (Ex.vk (rd ((Ty.i IntKind.i64).p (Ty.ex.p Ty.ex)) x35 x37).snd.snd) (Ex.vn (rd ((Ty.i IntKind.i64).p (Ty.ex.p Ty.ex)) x35 x37).snd.snd) (Ex.vs (rd ((Ty.i IntKind.i64).p (Ty.ex.p Ty.ex)) x35 x37).snd.snd) (Ex.var (rd ((Ty.i IntKind.i64).p (Ty.ex.p Ty.ex)) x35 x37).snd.snd) (Ex.fld (rd ((Ty.i IntKind.i64).p (Ty.ex.p Ty.ex)) x35 x37).snd.snd) (Ex.kids (rd ((Ty.i IntKind.i64).p (Ty.ex.p Ty.ex)) x35 x37).snd.snd), 6, ()) else some ((Ty.b.dflt, ()), ())).bind fun y_1 => bif bif bif t0 then true else !y.fst.fst then true else !y_1.fst.fst then some (Sum.inr (Sum.inl (false, ()))) else E62_1 k j ((x1f0, ()), x35, x36, IntKind.i64.wrap (x37 + 1), ()) else none else some (Sum.inl ((x1f0, ()), ()))) := by kernel_rfl
theorem F62_eq (k : Nat) (x0 : Ty.den T53) : F62 k (x0, ()) = (
(E62_0 k k ((x0, ()), [], x0.fst, (↑(List.length x0.fst) : Int), 0, ())).bind fun y =>
  match y with
  | Sum.inl y =>
    (E62_1 k k ((y.fst.fst, ()), y.fst.fst.snd.fst, (↑(List.length y.fst.fst.snd.fst) : Int), 0, ())).bind fun y =>
      match y with
      | Sum.inl y => bif decide ((↑(List.length y.fst.fst.fst) : Int) = 0) then bif decide ((↑(List.length y.fst.fst.fst) : Int) = 0) then some ((false, ()), ()) else bif decide (y.fst.fst.snd.snd.fst < 0) then bif decide (y.fst.fst.snd.snd.fst < 0) then some ((false, ()), ()) else (bif !decide (y.fst.fst.snd.snd.snd.fst = { data := #[] : ByteArray }) then F99 k (y.fst.fst.snd.snd.snd.fst, ()) else some ((Ty.b.dflt, ()), ())).bind fun y_1 => some ((bif decide (y.fst.fst.snd.snd.snd.fst = { data := #[] : ByteArray }) then true else y_1.fst.fst, ()), ()) else bif decide (1099511627776 < y.fst.fst.snd.snd.fst) then bif decide (1099511627776 < y.fst.fst.snd.snd.fst) then some ((false, ()), ()) else (bif !decide (y.fst.fst.snd.snd.snd.fst = { data := #[] : ByteArray }) then F99 k (y.fst.fst.snd.snd.snd.fst, ()) else some ((Ty.b.dflt, ()), ())).bind fun y_1 => some ((bif decide (y.fst.fst.snd.snd.snd.fst = { data := #[] : ByteArray }) then true else y_1.fst.fst, ()), ()) else bif decide (y.fst.fst.snd.snd.snd.snd < 1) then bif decide (y.fst.fst.snd.snd.snd.snd < 1) then some ((false, ()), ()) else (bif !decide (y.fst.fst.snd.snd.snd.fst = { data := #[] : ByteArray }) then F99 k (y.fst.fst.snd.snd.snd.fst, ()) else some ((Ty.b.dflt, ()), ())).bind fun y_1 => some ((bif decide (y.fst.fst.snd.snd.snd.fst = { data := #[] : ByteArray }) then true else y_1.fst.fst, ()), ()) else bif decide (3 < y.fst.fst.snd.snd.snd.snd) then some ((false, ()), ()) else (bif !decide (y.fst.fst.snd.snd.snd.fst = { data := #[] : ByteArray }) then F99 k (y.fst.fst.snd.snd.snd.fst, ()) else some ((Ty.b.dflt, ()), ())).bind fun y_1 => some ((bif decide (y.fst.fst.snd.snd.snd.fst = { data := #[] : ByteArray }) then true else y_1.fst.fst, ()), ()) else bif decide (6 < (↑(List.length y.fst.fst.fst) : Int)) then bif decide (6 < (↑(List.length y.fst.fst.fst) : Int)) then some ((false, ()), ()) else bif decide (y.fst.fst.snd.snd.fst < 0) then bif decide (y.fst.fst.snd.snd.fst < 0) then some ((false, ()), ()) else (bif !decide (y.fst.fst.snd.snd.snd.fst = { data := #[] : ByteArray }) then F99 k (y.fst.fst.snd.snd.snd.fst, ()) else some ((Ty.b.dflt, ()), ())).bind fun y_1 => some ((bif decide (y.fst.fst.snd.snd.snd.fst = { data := #[] : ByteArray }) then true else y_1.fst.fst, ()), ()) else bif decide (1099511627776 < y.fst.fst.snd.snd.fst) then bif decide (1099511627776 < y.fst.fst.snd.snd.fst) then some ((false, ()), ()) else (bif !decide (y.fst.fst.snd.snd.snd.fst = { data := #[] : ByteArray }) then F99 k (y.fst.fst.snd.snd.snd.fst, ()) else some ((Ty.b.dflt, ()), ())).bind fun y_1 => some ((bif decide (y.fst.fst.snd.snd.snd.fst = { data := #[] : ByteArray }) then true else y_1.fst.fst, ()), ()) else bif decide (y.fst.fst.snd.snd.snd.snd < 1) then bif decide (y.fst.fst.snd.snd.snd.snd < 1) then some ((false, ()), ()) else (bif !decide (y.fst.fst.snd.snd.snd.fst = { data := #[] : ByteArray }) then F99 k (y.fst.fst.snd.snd.snd.fst, ()) else some ((Ty.b.dflt, ()), ())).bind fun y_1 => some ((bif decide (y.fst.fst.snd.snd.snd.fst = { data := #[] : ByteArray }) then true else y_1.fst.fst, ()), ()) else bif decide (3 < y.fst.fst.snd.snd.snd.snd) then some ((false, ()), ()) else (bif !decide (y.fst.fst.snd.snd.snd.fst = { data := #[] : ByteArray }) then F99 k (y.fst.fst.snd.snd.snd.fst, ()) else some ((Ty.b.dflt, ()), ())).bind fun y_1 => some ((bif decide (y.fst.fst.snd.snd.snd.fst = { data := #[] : ByteArray }) then true else y_1.fst.fst, ()), ()) else bif decide (8 < (↑(List.length y.fst.fst.snd.fst) : Int)) then some ((false, ()), ()) else bif decide (y.fst.fst.snd.snd.fst < 0) then bif decide (y.fst.fst.snd.snd.fst < 0) then some ((false, ()), ()) else (bif !decide (y.fst.fst.snd.snd.snd.fst = { data := #[] : ByteArray }) then F99 k (y.fst.fst.snd.snd.snd.fst, ()) else some ((Ty.b.dflt, ()), ())).bind fun y_1 => some ((bif decide (y.fst.fst.snd.snd.snd.fst = { data := #[] : ByteArray }) then true else y_1.fst.fst, ()), ()) else bif decide (1099511627776 < y.fst.fst.snd.snd.fst) then bif decide (1099511627776 < y.fst.fst.snd.snd.fst) then some ((false, ()), ()) else (bif !decide (y.fst.fst.snd.snd.snd.fst = { data := #[] : ByteArray }) then F99 k (y.fst.fst.snd.snd.snd.fst, ()) else some ((Ty.b.dflt, ()), ())).bind fun y_1 => some ((bif decide (y.fst.fst.snd.snd.snd.fst = { data := #[] : ByteArray }) then true else y_1.fst.fst, ()), ()) else bif decide (y.fst.fst.snd.snd.snd.snd < 1) then bif decide (y.fst.fst.snd.snd.snd.snd < 1) then some ((false, ()), ()) else (bif !decide (y.fst.fst.snd.snd.snd.fst = { data := #[] : ByteArray }) then F99 k (y.fst.fst.snd.snd.snd.fst, ()) else some ((Ty.b.dflt, ()), ())).bind fun y_1 => some ((bif decide (y.fst.fst.snd.snd.snd.fst = { data := #[] : ByteArray }) then true else y_1.fst.fst, ()), ()) else bif decide (3 < y.fst.fst.snd.snd.snd.snd) then some ((false, ()), ()) else (bif !decide (y.fst.fst.snd.snd.snd.fst = { data := #[] : ByteArray }) then F99 k (y.fst.fst.snd.snd.snd.fst, ()) else some ((Ty.b.dflt, ()), ())).bind fun y_1 => some ((bif decide (y.fst.fst.snd.snd.snd.fst = { data := #[] : ByteArray }) then true else y_1.fst.fst, ()), ())
      | Sum.inr y =>
        match y with
        | Sum.inl y => some ((y.fst, ()), ())
        | Sum.inr y => nomatch y
  | Sum.inr y =>
    match y with
    | Sum.inl y => some ((y.fst, ()), ())
    | Sum.inr y => nomatch y) := by kernel_rfl
theorem F41_eq (k : Nat) (x0 : Ty.den T57) : F41 k (x0, ()) = (
  let t0 : Bool := (!x0.snd.fst);
  let t1 : Bool := (bif decide (0 ≤ x0.fst) then decide (x0.fst ≤ 1099511627776) else false);
(bif t1 && x0.snd.fst then F61 k (x0.snd.snd, ()) else some ((Ty.b.dflt, ()), ())).bind fun y => (bif (t1 && !bif x0.snd.fst then y.fst.fst else false) && t0 then F62 k (x0.snd.snd, ()) else some ((Ty.b.dflt, ()), ())).bind fun y_1 => some ((bif t1 then bif bif x0.snd.fst then y.fst.fst else false then true else bif t0 then y_1.fst.fst else false else false, ()), ())) := by kernel_rfl
theorem E28_0_eq (k j : Nat) (x0 : Ty.den T34) (x3f0 : Ty.den T57) (x7 : Ty.den T34) (x8 : Ty.den T3) (x9 : Ty.den T3) : E28_0 k (j + 1) (x0, (x3f0, ()), x7, x8, x9, ()) = (
  bif decide (x9 < x8) then bif inb x9 (List.length x7) then (F41 k (rd ((Ty.i IntKind.i64).p (Ty.b.p ((Ty.b.p (Ty.s.l.p (Ty.s.p (Ty.i IntKind.i64)))).l.p (((Ty.i IntKind.i64).p (Ty.ex.p Ty.ex)).l.p ((Ty.i IntKind.i64).p (Ty.s.p (Ty.i IntKind.i64))))))) x7 x9, ())).bind fun y => bif bif bif !y.fst.fst then true else decide ((rd ((Ty.i IntKind.i64).p (Ty.b.p ((Ty.b.p (Ty.s.l.p (Ty.s.p (Ty.i IntKind.i64)))).l.p (((Ty.i IntKind.i64).p (Ty.ex.p Ty.ex)).l.p ((Ty.i IntKind.i64).p (Ty.s.p (Ty.i IntKind.i64))))))) x7 x9).fst ≤ x3f0.fst) then true else bif x3f0.snd.fst then (rd ((Ty.i IntKind.i64).p (Ty.b.p ((Ty.b.p (Ty.s.l.p (Ty.s.p (Ty.i IntKind.i64)))).l.p (((Ty.i IntKind.i64).p (Ty.ex.p Ty.ex)).l.p ((Ty.i IntKind.i64).p (Ty.s.p (Ty.i IntKind.i64))))))) x7 x9).snd.fst else false then some (Sum.inr (Sum.inl (false, ()))) else E28_0 k j (x0, (rd ((Ty.i IntKind.i64).p (Ty.b.p ((Ty.b.p (Ty.s.l.p (Ty.s.p (Ty.i IntKind.i64)))).l.p (((Ty.i IntKind.i64).p (Ty.ex.p Ty.ex)).l.p ((Ty.i IntKind.i64).p (Ty.s.p (Ty.i IntKind.i64))))))) x7 x9, ()), x7, x8, IntKind.i64.wrap (x9 + 1), ()) else none else some (Sum.inl (x0, ()))) := by kernel_rfl
theorem F28_eq (k : Nat) (x0 : Ty.den T34) : F28 k (x0, ()) = (
(E28_0 k k (x0, ((-1, true, [], [], 0, { data := #[] : ByteArray }, 0), ()), x0, (↑(List.length x0) : Int), 0, ())).bind fun y =>
  match y with
  | Sum.inl y => some ((decide ((↑(List.length y.fst) : Int) ≤ 8), ()), ())
  | Sum.inr y =>
    match y with
    | Sum.inl y => some ((y.fst, ()), ())
    | Sum.inr y => nomatch y) := by kernel_rfl
theorem E12_0_eq (k j : Nat) (x0 : Ty.den T22) (x5 : Ty.den T22) (x6 : Ty.den T3) (x7 : Ty.den T3) : E12_0 k (j + 1) (x0, x5, x6, x7, ()) = (
  bif decide (x7 < x6) then bif inb x7 (List.length x5) then (F26 k ((rd (Ty.s.p ((Ty.i IntKind.i64).p (Ty.b.p ((Ty.b.p (Ty.s.l.p (Ty.s.p (Ty.i IntKind.i64)))).l.p (((Ty.i IntKind.i64).p (Ty.ex.p Ty.ex)).l.p ((Ty.i IntKind.i64).p (Ty.s.p (Ty.i IntKind.i64))))))).l) x5 x7).fst, ())).bind fun y => (bif !!y.fst.fst then F27 k ((rd (Ty.s.p ((Ty.i IntKind.i64).p (Ty.b.p ((Ty.b.p (Ty.s.l.p (Ty.s.p (Ty.i IntKind.i64)))).l.p (((Ty.i IntKind.i64).p (Ty.ex.p Ty.ex)).l.p ((Ty.i IntKind.i64).p (Ty.s.p (Ty.i IntKind.i64))))))).l) x5 x7).fst, ()) else some ((Ty.b.dflt, ()), ())).bind fun y_1 => (bif !bif bif !y.fst.fst then true else y_1.fst.fst then true else decide ((↑(List.length (rd (Ty.s.p ((Ty.i IntKind.i64).p (Ty.b.p ((Ty.b.p (Ty.s.l.p (Ty.s.p (Ty.i IntKind.i64)))).l.p (((Ty.i IntKind.i64).p (Ty.ex.p Ty.ex)).l.p ((Ty.i IntKind.i64).p (Ty.s.p (Ty.i IntKind.i64))))))).l) x5 x7).snd) : Int) = 0) then F28 k ((rd (Ty.s.p ((Ty.i IntKind.i64).p (Ty.b.p ((Ty.b.p (Ty.s.l.p (Ty.s.p (Ty.i IntKind.i64)))).l.p (((Ty.i IntKind.i64).p (Ty.ex.p Ty.ex)).l.p ((Ty.i IntKind.i64).p (Ty.s.p (Ty.i IntKind.i64))))))).l) x5 x7).snd, ()) else some ((Ty.b.dflt, ()), ())).bind fun y_2 => bif bif (!bif bif bif !y.fst.fst then true else y_1.fst.fst then true else decide ((↑(List.length (rd (Ty.s.p ((Ty.i IntKind.i64).p (Ty.b.p ((Ty.b.p (Ty.s.l.p (Ty.s.p (Ty.i IntKind.i64)))).l.p (((Ty.i IntKind.i64).p (Ty.ex.p Ty.ex)).l.p ((Ty.i IntKind.i64).p (Ty.s.p (Ty.i IntKind.i64))))))).l) x5 x7).snd) : Int) = 0) then true else !y_2.fst.fst) && decide (0 < x7) then inb (IntKind.i64.wrap (x7 - 1)) (List.length x0) else true then bif bif bif bif bif !y.fst.fst then true else y_1.fst.fst then true else decide ((↑(List.length (rd (Ty.s.p ((Ty.i IntKind.i64).p (Ty.b.p ((Ty.b.p (Ty.s.l.p (Ty.s.p (Ty.i IntKind.i64)))).l.p (((Ty.i IntKind.i64).p (Ty.ex.p Ty.ex)).l.p ((Ty.i IntKind.i64).p (Ty.s.p (Ty.i IntKind.i64))))))).l) x5 x7).snd) : Int) = 0) then true else !y_2.fst.fst then true else bif decide (0 < x7) then !strLt (rd (Ty.s.p ((Ty.i IntKind.i64).p (Ty.b.p ((Ty.b.p (Ty.s.l.p (Ty.s.p (Ty.i IntKind.i64)))).l.p (((Ty.i IntKind.i64).p (Ty.ex.p Ty.ex)).l.p ((Ty.i IntKind.i64).p (Ty.s.p (Ty.i IntKind.i64))))))).l) x0 (IntKind.i64.wrap (x7 - 1))).fst (rd (Ty.s.p ((Ty.i IntKind.i64).p (Ty.b.p ((Ty.b.p (Ty.s.l.p (Ty.s.p (Ty.i IntKind.i64)))).l.p (((Ty.i IntKind.i64).p (Ty.ex.p Ty.ex)).l.p ((Ty.i IntKind.i64).p (Ty.s.p (Ty.i IntKind.i64))))))).l) x5 x7).fst else false then some (Sum.inr (Sum.inl (false, ()))) else E12_0 k j (x0, x5, x6, IntKind.i64.wrap (x7 + 1), ()) else none else none else some (Sum.inl (x0, ()))) := by kernel_rfl
theorem F12_eq (k : Nat) (x0 : Ty.den T22) : F12 k (x0, ()) = (
(E12_0 k k (x0, x0, (↑(List.length x0) : Int), 0, ())).bind fun y =>
  match y with
  | Sum.inl y => some ((decide ((↑(List.length y.fst) : Int) ≤ 8), ()), ())
  | Sum.inr y =>
    match y with
    | Sum.inl y => some ((y.fst, ()), ())
    | Sum.inr y => nomatch y) := by kernel_rfl
theorem E95_0_eq (k j : Nat) (x0 : Ty.den T64) (x1 : Ty.den T9) (x7 : Ty.den T3) (x8 : Ty.den T3) : E95_0 k (j + 1) (x0, x1, x7, x8, ()) = (
  bif decide (x8 < x7) then bif inb x8 (List.length x0) then bif decide (x1 = rd Ty.s x0 x8) then some (Sum.inr (Sum.inl (x8, ()))) else E95_0 k j (x0, x1, x7, IntKind.i64.wrap (x8 + 1), ()) else none else some (Sum.inl ())) := by kernel_rfl
theorem F95_eq (k : Nat) (x0 : Ty.den T64) (x1 : Ty.den T9) : F95 k (x0, x1, ()) = (
(E95_0 k k (x0, x1, (↑(List.length x0) : Int), 0, ())).bind fun y =>
  match y with
  | Sum.inl y => some ((-1, ()), ())
  | Sum.inr y =>
    match y with
    | Sum.inl y => some ((y.fst, ()), ())
    | Sum.inr y => nomatch y) := by kernel_rfl
theorem F59_eq (k : Nat) (x0 : Ty.den T64) (x1 : Ty.den T9) : F59 k (x0, x1, ()) = (
(F95 k (x0, x1, ())).bind fun y => some ((decide (0 ≤ y.fst.fst), ()), ())) := by kernel_rfl
theorem F58_eq (k : Nat) (x0 : Ty.den T66) (x1c0 : Ty.den T9) : F58 k (x0, (x1c0, ()), ()) = (
(F59 k (x0.snd.fst, x1c0, ())).bind fun y => some ((y.fst.fst, ()), ())) := by kernel_rfl
theorem E94_0_eq (k j : Nat) (x0 : Ty.den T50) (x1000100c0 : Ty.den T9) (x7 : Ty.den T3) (x8 : Ty.den T3) : E94_0 k (j + 1) (x0, (), (x1000100c0, ()), x7, x8, ()) = (
  bif decide (x8 < x7) then bif inb x8 (List.length x0) then (F58 k (rd (Ty.b.p (Ty.s.l.p (Ty.s.p (Ty.i IntKind.i64)))) x0 x8, (x1000100c0, ()), ())).bind fun y => bif y.fst.fst then some (Sum.inr (Sum.inl (x8, ()))) else E94_0 k j (x0, (), (x1000100c0, ()), x7, IntKind.i64.wrap (x8 + 1), ()) else none else some (Sum.inl ())) := by kernel_rfl
theorem F94_eq (k : Nat) (x0 : Ty.den T50) (x2c0 : Ty.den T9) : F94 k (x0, (), (x2c0, ()), ()) = (
(E94_0 k k (x0, (), (x2c0, ()), (↑(List.length x0) : Int), 0, ())).bind fun y =>
  match y with
  | Sum.inl y => some ((-1, ()), ())
  | Sum.inr y =>
    match y with
    | Sum.inl y => some ((y.fst, ()), ())
    | Sum.inr y => nomatch y) := by kernel_rfl
theorem F57_eq (k : Nat) (x0 : Ty.den T50) (x2c0 : Ty.den T9) : F57 k (x0, (), (x2c0, ()), ()) = (
(F94 k (x0, (), (x2c0, ()), ())).bind fun y => some ((decide (0 ≤ y.fst.fst), ()), ())) := by kernel_rfl
theorem F56_eq (k : Nat) (x0 : Ty.den T57) (x1c0 : Ty.den T9) : F56 k (x0, (x1c0, ()), ()) = (
(F57 k (x0.snd.snd.fst, (), (x1c0, ()), ())).bind fun y => some ((y.fst.fst, ()), ())) := by kernel_rfl
theorem E93_0_eq (k j : Nat) (x0 : Ty.den T34) (x1000100c0 : Ty.den T9) (x7 : Ty.den T3) (x8 : Ty.den T3) : E93_0 k (j + 1) (x0, (), (x1000100c0, ()), x7, x8, ()) = (
  bif decide (x8 < x7) then bif inb x8 (List.length x0) then (F56 k (rd ((Ty.i IntKind.i64).p (Ty.b.p ((Ty.b.p (Ty.s.l.p (Ty.s.p (Ty.i IntKind.i64)))).l.p (((Ty.i IntKind.i64).p (Ty.ex.p Ty.ex)).l.p ((Ty.i IntKind.i64).p (Ty.s.p (Ty.i IntKind.i64))))))) x0 x8, (x1000100c0, ()), ())).bind fun y => bif y.fst.fst then some (Sum.inr (Sum.inl (x8, ()))) else E93_0 k j (x0, (), (x1000100c0, ()), x7, IntKind.i64.wrap (x8 + 1), ()) else none else some (Sum.inl ())) := by kernel_rfl
theorem F93_eq (k : Nat) (x0 : Ty.den T34) (x2c0 : Ty.den T9) : F93 k (x0, (), (x2c0, ()), ()) = (
(E93_0 k k (x0, (), (x2c0, ()), (↑(List.length x0) : Int), 0, ())).bind fun y =>
  match y with
  | Sum.inl y => some ((-1, ()), ())
  | Sum.inr y =>
    match y with
    | Sum.inl y => some ((y.fst, ()), ())
    | Sum.inr y => nomatch y) := by kernel_rfl
theorem F55_eq (k : Nat) (x0 : Ty.den T34) (x2c0 : Ty.den T9) : F55 k (x0, (), (x2c0, ()), ()) = (
(F93 k (x0, (), (x2c0, ()), ())).bind fun y => some ((decide (0 ≤ y.fst.fst), ()), ())) := by kernel_rfl
theorem F39_eq (k : Nat) (x0 : Ty.den T36) (x1 : Ty.den T9) : F39 k (x0, x1, ()) = (
(F55 k (x0.snd, (), (x1, ()), ())).bind fun y => some ((y.fst.fst, ()), ())) := by kernel_rfl
theorem E24_0_0_eq (k j : Nat) (x0 : Ty.den T22) (x3 : List (List (Ty.den T3))) (x4 : Ty.den T3) (x5f0 : Ty.den T36) (x14 : Ty.den T22) (x15 : Ty.den T3) (x16 : Ty.den T3) (x21 : Ty.den T22) (x22 : Ty.den T3) (x23 : Ty.den T3) : E24_0_0 k (j + 1) (x0, x3, x4, (x5f0, ()), x14, x15, x16, x21, x22, x23, ()) = (
  bif decide (x23 < x22) then bif inb x23 (List.length x21) then (F39 k (x5f0, (rd (Ty.s.p ((Ty.i IntKind.i64).p (Ty.b.p ((Ty.b.p (Ty.s.l.p (Ty.s.p (Ty.i IntKind.i64)))).l.p (((Ty.i IntKind.i64).p (Ty.ex.p Ty.ex)).l.p ((Ty.i IntKind.i64).p (Ty.s.p (Ty.i IntKind.i64))))))).l) x21 x23).fst, ())).bind fun y => bif y.fst.fst then bif inb x4 x3.length then bif inb x4 x3.length then bif decide ((List.length (rd (Ty.i IntKind.i64).l x3 x4) + [x23].length) * (7 + 1) ≤ 140737488355328) then bif inb x4 x3.length then bif decide (x4 = x4) && inb x4 x3.length then E24_0_0 k j (x0, x3.set (Int.toNat x4) (rd (Ty.i IntKind.i64).l x3 x4 ++ [x23]), x4, (x5f0, ()), x14, x15, x16, x21, x22, IntKind.i64.wrap (x23 + 1), ()) else none else none else none else none else none else E24_0_0 k j (x0, x3, x4, (x5f0, ()), x14, x15, x16, x21, x22, IntKind.i64.wrap (x23 + 1), ()) else none else some (Sum.inl (x0, x3, x14, x15, x16, ()))) := by kernel_rfl
theorem E24_0_eq (k j : Nat) (x0 : Ty.den T22) (x3 : List (List (Ty.den T3))) (x14 : Ty.den T22) (x15 : Ty.den T3) (x16 : Ty.den T3) : E24_0 k (j + 1) (x0, x3, x14, x15, x16, ()) = (
  bif decide (x16 < x15) then
  bif inb x16 (List.length x14) then
    (E24_0_0 k k (x0, x3, x16, (rd (Ty.s.p ((Ty.i IntKind.i64).p (Ty.b.p ((Ty.b.p (Ty.s.l.p (Ty.s.p (Ty.i IntKind.i64)))).l.p (((Ty.i IntKind.i64).p (Ty.ex.p Ty.ex)).l.p ((Ty.i IntKind.i64).p (Ty.s.p (Ty.i IntKind.i64))))))).l) x14 x16, ()), x14, x15, x16, x0, (↑(List.length x0) : Int), 0, ())).bind fun y =>
      match y with
      | Sum.inl y => E24_0 k j (y.fst, y.snd.fst, y.snd.snd.fst, y.snd.snd.snd.fst, IntKind.i64.wrap (y.snd.snd.snd.snd.fst + 1), ())
      | Sum.inr y => nomatch y
  else none
  else some (Sum.inl (x3, ()))) := by kernel_rfl
theorem F24_eq (k : Nat) (x0 : Ty.den T22) : F24 k (x0, ()) = (
(F12 k (x0, ())).bind fun y =>
  bif !y.fst.fst then some (([], ()), ())
  else
    bif decide (0 ≤ (↑(List.length x0) : Int)) && (decide ((↑(List.length x0) : Int) ≤ (↑(List.length x0) : Int)) && (decide ((↑(List.length x0) : Int) * (↑Tryz.prog.types[25].bytes : Int) ≤ 140737488355328) && decide ((↑(List.length x0) : Int) ≤ 140737488355328))) then
      (E24_0 k k (x0, List.replicate (↑(List.length x0) : Int).toNat [], x0, (↑(List.length x0) : Int), 0, ())).bind fun y =>
        match y with
        | Sum.inl y => some ((y.fst, ()), ())
        | Sum.inr y => nomatch y
    else none) := by kernel_rfl
theorem E25_0_eq (k j : Nat) (x0 : Ty.den T25) (x3 : Ty.den T3) (x4 : Ty.den T3) : E25_0 k (j + 1) (x0, x3, x4, ()) = (
  bif decide (x4 < (↑(List.length x0) : Int)) then bif inb x4 (List.length x0) then E25_0 k j (x0, bif true then bif decide (x3 < rd (Ty.i IntKind.i64) x0 x4) then rd (Ty.i IntKind.i64) x0 x4 else x3 else bif decide (rd (Ty.i IntKind.i64) x0 x4 < x3) then rd (Ty.i IntKind.i64) x0 x4 else x3, IntKind.i64.wrap (x4 + 1), ()) else none else some (Sum.inl (x3, ()))) := by kernel_rfl
theorem F25_eq (k : Nat) (x0 : Ty.den T25) : F25 k (x0, ()) = (
  bif decide ((↑(List.length x0) : Int) < 1) then none
  else
  bif inb 0 (List.length x0) then
    (E25_0 k k (x0, rd (Ty.i IntKind.i64) x0 0, 1, ())).bind fun y =>
      match y with
      | Sum.inl y => some ((y.fst, ()), ())
      | Sum.inr y => nomatch y
  else none) := by kernel_rfl
theorem E10_0_0_eq (k j : Nat) (x0 : Ty.den T22) (x4 : Ty.den T40) (x5 : List (Ty.den T3)) (x6 : Ty.den T4) (x7 : Ty.den T3) (x8 : Ty.den T3) (x10 : Ty.den T3) (x21 : Ty.den T40) (x22 : Ty.den T3) (x23 : Ty.den T3) (x28 : Ty.den T25) (x29 : Ty.den T3) (x30 : Ty.den T3) : E10_0_0 k (j + 1) (x0, x4, x5, x6, x7, x8, x10, x21, x22, x23, x28, x29, x30, ()) = (
  bif decide (x30 < x29) then bif inb x30 (List.length x28) then bif inb (rd (Ty.i IntKind.i64) x28 x30) x5.length then bif inb (rd (Ty.i IntKind.i64) x28 x30) x5.length then E10_0_0 k j (x0, x4, x5, x6, x7, x8, bif true then bif decide (x10 < IntKind.i64.wrap (rd (Ty.i IntKind.i64) x5 (rd (Ty.i IntKind.i64) x28 x30) + 1)) then IntKind.i64.wrap (rd (Ty.i IntKind.i64) x5 (rd (Ty.i IntKind.i64) x28 x30) + 1) else x10 else bif decide (IntKind.i64.wrap (rd (Ty.i IntKind.i64) x5 (rd (Ty.i IntKind.i64) x28 x30) + 1) < x10) then IntKind.i64.wrap (rd (Ty.i IntKind.i64) x5 (rd (Ty.i IntKind.i64) x28 x30) + 1) else x10, x21, x22, x23, x28, x29, IntKind.i64.wrap (x30 + 1), ()) else none else none else none else some (Sum.inl (x0, x4, x5, x6, x7, x8, x10, x21, x22, x23, ()))) := by kernel_rfl
theorem E10_0_eq (k j : Nat) (x0 : Ty.den T22) (x4 : Ty.den T40) (x5 : List (Ty.den T3)) (x6 : Ty.den T4) (x7 : Ty.den T3) (x21 : Ty.den T40) (x22 : Ty.den T3) (x23 : Ty.den T3) : E10_0 k (j + 1) (x0, x4, x5, x6, x7, x21, x22, x23, ()) = (
  bif decide (x23 < x22) then
  bif inb x23 (List.length x21) then
    (E10_0_0 k k (x0, x4, x5, x6, x7, x23, 1, x21, x22, x23, rd (Ty.i IntKind.i64).l x21 x23, (↑(List.length (rd (Ty.i IntKind.i64).l x21 x23)) : Int), 0, ())).bind fun y =>
      match y with
      | Sum.inl y => bif bif !y.snd.snd.snd.fst then inb y.snd.snd.snd.snd.snd.fst (List.length y.snd.snd.fst) else true then bif bif !y.snd.snd.snd.fst then inb y.snd.snd.snd.snd.snd.fst (List.length y.snd.snd.fst) else true then bif inb y.snd.snd.snd.snd.snd.fst (List.length y.snd.snd.fst) then bif inb y.snd.snd.snd.snd.snd.fst (List.length y.snd.snd.fst) then E10_0 k j (y.fst, y.snd.fst, List.set y.snd.snd.fst (Int.toNat y.snd.snd.snd.snd.snd.fst) y.snd.snd.snd.snd.snd.snd.fst, bif y.snd.snd.snd.fst then true else decide (rd (Ty.i IntKind.i64) y.snd.snd.fst y.snd.snd.snd.snd.snd.fst < y.snd.snd.snd.snd.snd.snd.fst), y.snd.snd.snd.snd.fst, y.snd.snd.snd.snd.snd.snd.snd.fst, y.snd.snd.snd.snd.snd.snd.snd.snd.fst, IntKind.i64.wrap (y.snd.snd.snd.snd.snd.snd.snd.snd.snd.fst + 1), ()) else none else none else none else none
      | Sum.inr y => nomatch y
  else none
  else some (Sum.inl (x0, x4, x5, x6, x7, ()))) := by kernel_rfl
theorem ES10_eq (k j : Nat) (x0 : Ty.den T22) (x4 : Ty.den T40) (x5 : List (Ty.den T3)) (x7 : Ty.den T3) : ES10 k (j + 1) (x0, x4, x5, x7, ()) = (
(E10_0 k k (x0, x4, x5, false, x7, x4, (↑(List.length x4) : Int), 0, ())).bind fun y =>
  match y with
  | Sum.inl y => bif bif y.snd.snd.snd.fst then decide (IntKind.i64.wrap (y.snd.snd.snd.snd.fst + 1) ≤ (↑(List.length y.fst) : Int)) else false then ES10 k j (y.fst, y.snd.fst, y.snd.snd.fst, IntKind.i64.wrap (y.snd.snd.snd.snd.fst + 1), ()) else bif y.snd.snd.snd.fst then some (Sum.inl ([], 161, ())) else (bif decide (0 < (↑(List.length y.fst) : Int)) then F25 k (y.snd.snd.fst, ()) else some (((Ty.i IntKind.i64).dflt, ()), ())).bind fun y_1 => bif bif decide (0 < (↑(List.length y.fst) : Int)) then decide (3 < y_1.fst.fst) else false then some (Sum.inl ([], 2, ())) else some (Sum.inl (y.snd.snd.fst, 0, ()))
  | Sum.inr y => nomatch y) := by kernel_rfl
theorem F10_eq (k : Nat) (x0 : Ty.den T22) : F10 k (x0, ()) = (
(F12 k (x0, ())).bind fun y =>
  bif !y.fst.fst then some (([], 1, ()), ())
  else
    (F24 k (x0, ())).bind fun y =>
      bif decide (0 ≤ (↑(List.length x0) : Int)) && (decide ((↑(List.length x0) : Int) ≤ (↑(List.length x0) : Int)) && (decide ((↑(List.length x0) : Int) * (↑Tryz.prog.types[3].bytes : Int) ≤ 140737488355328) && decide ((↑(List.length x0) : Int) ≤ 140737488355328))) then
        (E10_0 k k (x0, y.fst.fst, List.replicate (↑(List.length x0) : Int).toNat 0, false, 0, y.fst.fst, (↑(List.length y.fst.fst) : Int), 0, ())).bind fun y =>
          match y with
          | Sum.inl y =>
            bif bif y.snd.snd.snd.fst then decide (IntKind.i64.wrap (y.snd.snd.snd.snd.fst + 1) ≤ (↑(List.length y.fst) : Int)) else false then
              (ES10 k k (y.fst, y.snd.fst, y.snd.snd.fst, IntKind.i64.wrap (y.snd.snd.snd.snd.fst + 1), ())).bind fun y =>
                match y with
                | Sum.inl y => some ((y.fst, y.snd.fst, ()), ())
                | Sum.inr y => nomatch y
            else bif y.snd.snd.snd.fst then some (([], 161, ()), ()) else (bif decide (0 < (↑(List.length y.fst) : Int)) then F25 k (y.snd.snd.fst, ()) else some (((Ty.i IntKind.i64).dflt, ()), ())).bind fun y_1 => bif bif decide (0 < (↑(List.length y.fst) : Int)) then decide (3 < y_1.fst.fst) else false then some (([], 2, ()), ()) else some ((y.snd.snd.fst, 0, ()), ())
          | Sum.inr y => nomatch y
      else none) := by kernel_rfl
theorem E14_0_eq (k j : Nat) (x0 : Ty.den T25) (x1 : Ty.den T25) (x5 : Ty.den T3) : E14_0 k (j + 1) (x0, x1, x5, ()) = (
  bif decide (x5 < (↑(List.length x0) : Int)) then bif inb x5 (List.length x0) then bif inb x5 (List.length x1) then bif !decide (rd (Ty.i IntKind.i64) x0 x5 = rd (Ty.i IntKind.i64) x1 x5) then some (Sum.inr (Sum.inl (false, ()))) else E14_0 k j (x0, x1, IntKind.i64.wrap (x5 + 1), ()) else none else none else some (Sum.inl ())) := by kernel_rfl
theorem F14_eq (k : Nat) (x0 : Ty.den T25) (x1 : Ty.den T25) : F14 k (x0, x1, ()) = (
  bif !decide ((↑(List.length x0) : Int) = (↑(List.length x1) : Int)) then some ((false, ()), ())
  else
  (E14_0 k k (x0, x1, 0, ())).bind fun y =>
    match y with
    | Sum.inl y => some ((true, ()), ())
    | Sum.inr y =>
      match y with
      | Sum.inl y => some ((y.fst, ()), ())
      | Sum.inr y => nomatch y) := by kernel_rfl
theorem F46_eq (k : Nat) (x0 : Ty.den T3) : F46 k (x0, ()) = (
  some ((!decide (x0 = x0), ()), ())) := by kernel_rfl
theorem F33_eq (k : Nat) (x0 : Ty.den T3) (x1 : Ty.den T3) : F33 k (x0, x1, ()) = (
(F46 k (x0, ())).bind fun y => (F46 k (x1, ())).bind fun y_1 => bif y.fst.fst then bif y_1.fst.fst then some ((0, ()), ()) else some ((-1, ()), ()) else bif y_1.fst.fst then some ((1, ()), ()) else bif decide (x0 < x1) then some ((-1, ()), ()) else bif decide (x1 < x0) then some ((1, ()), ()) else some ((0, ()), ())) := by kernel_rfl
theorem F32_eq (k : Nat) (x0 : Ty.den T3) (x1 : Ty.den T3) (x2f0 : Ty.den T25) : F32 k (x0, x1, (x2f0, ()), ()) = (
  bif inb x0 (List.length x2f0) then bif inb x1 (List.length x2f0) then (F33 k (rd (Ty.i IntKind.i64) x2f0 x0, rd (Ty.i IntKind.i64) x2f0 x1, ())).bind fun y => some ((y.fst.fst, ()), (x2f0, ()), ()) else none else none) := by kernel_rfl
theorem E64_0_0_eq (k j : Nat) (x0 : List (Ty.den T3)) (x1 : Ty.den T3) (x2 : Ty.den T3) (x1000300f0 : Ty.den T25) (x8 : Ty.den T3) (x9 : Ty.den T3) : E64_0_0 k (j + 1) (x0, x1, x2, (), (x1000300f0, ()), x8, x9, ()) = (
  bif bif decide (x1 < x9) then inb x9 x0.length else true then bif bif decide (x1 < x9) then inb x9 x0.length else true then bif bif decide (x1 < x9) then inb (IntKind.i64.wrap (x9 - 1)) x0.length else true then bif bif decide (x1 < x9) then inb (IntKind.i64.wrap (x9 - 1)) x0.length else true then bif decide (x1 < x9) then (F32 k (rd (Ty.i IntKind.i64) x0 x9, rd (Ty.i IntKind.i64) x0 (IntKind.i64.wrap (x9 - 1)), (x1000300f0, ()), ())).bind fun y => bif bif true then decide (y.fst.fst < 0) else false then bif inb (IntKind.i64.wrap (x9 - 1)) x0.length then bif inb (IntKind.i64.wrap (x9 - 1)) x0.length then bif inb x9 x0.length then bif inb x9 x0.length then bif inb x9 x0.length then bif inb x9 x0.length then bif inb (IntKind.i64.wrap (x9 - 1)) (x0.set (Int.toNat x9) (rd (Ty.i IntKind.i64) x0 (IntKind.i64.wrap (x9 - 1)))).length then bif inb (IntKind.i64.wrap (x9 - 1)) (x0.set (Int.toNat x9) (rd (Ty.i IntKind.i64) x0 (IntKind.i64.wrap (x9 - 1)))).length then E64_0_0 k j ((x0.set (Int.toNat x9) (rd (Ty.i IntKind.i64) x0 (IntKind.i64.wrap (x9 - 1)))).set (IntKind.i64.wrap (x9 - 1)).toNat (rd (Ty.i IntKind.i64) x0 x9), x1, x2, (), (y.snd.fst.fst, ()), x8, IntKind.i64.wrap (x9 - 1), ()) else none else none else none else none else none else none else none else none else some (Sum.inl (x0, x1, x2, (), (y.snd.fst.fst, ()), x8, ())) else some (Sum.inl (x0, x1, x2, (), (x1000300f0, ()), x8, ())) else none else none else none else none) := by kernel_rfl
theorem E64_0_eq (k j : Nat) (x0 : List (Ty.den T3)) (x1 : Ty.den T3) (x2 : Ty.den T3) (x1000300f0 : Ty.den T25) (x8 : Ty.den T3) : E64_0 k (j + 1) (x0, x1, x2, (), (x1000300f0, ()), x8, ()) = (
  bif decide (x8 < x2) then
  (E64_0_0 k k (x0, x1, x2, (), (x1000300f0, ()), x8, x8, ())).bind fun y =>
    match y with
    | Sum.inl y => E64_0 k j (y.fst, y.snd.fst, y.snd.snd.fst, (), (y.snd.snd.snd.snd.fst.fst, ()), IntKind.i64.wrap (y.snd.snd.snd.snd.snd.fst + 1), ())
    | Sum.inr y => nomatch y
  else some (Sum.inl (x0, (), (x1000300f0, ()), ()))) := by kernel_rfl
theorem F64_eq (k : Nat) (x0 : List (Ty.den T3)) (x1 : Ty.den T3) (x2 : Ty.den T3) (x4f0 : Ty.den T25) : F64 k (x0, x1, x2, (), (x4f0, ()), ()) = (
(E64_0 k k (x0, x1, x2, (), (x4f0, ()), IntKind.i64.wrap (x1 + 1), ())).bind fun y =>
  match y with
  | Sum.inl y => some ((), y.fst, (y.snd.snd.fst.fst, ()), ())
  | Sum.inr y => nomatch y) := by kernel_rfl
theorem E45_0_eq (k j : Nat) (x0 : List (Ty.den T3)) (x1 : Ty.den T3) (x1000200f0 : Ty.den T25) (x6 : Ty.den T3) (x7 : Ty.den T3) (x8 : Ty.den T3) : E45_0 k (j + 1) (x0, x1, (), (x1000200f0, ()), x6, x7, x8, ()) = (
  bif decide (x8 ≤ x1) then (F64 k (x0, x7, x8, (), (x1000200f0, ()), ())).bind fun y => E45_0 k j (y.snd.fst, x1, (), (y.snd.snd.fst.fst, ()), x6, x8, IntKind.i64.wrap (x8 + x6), ()) else some (Sum.inl (x0, x1, (), (x1000200f0, ()), x6, x7, ()))) := by kernel_rfl
theorem E45_1_0_eq (k j : Nat) (x0 : List (Ty.den T3)) (x1 : Ty.den T3) (x1000200f0 : Ty.den T25) (x6 : Ty.den T3) (x7 : Ty.den T3) (x8 : Ty.den T3) : E45_1_0 k (j + 1) (x0, x1, (), (x1000200f0, ()), x6, x7, x8, ()) = (
  bif decide (x8 ≤ x1) then none else some (Sum.inl (x0, x1, (), (x1000200f0, ()), x6, x7, ()))) := by kernel_rfl
theorem E45_1_eq (k j : Nat) (x0 : List (Ty.den T3)) (x1 : Ty.den T3) (x1000200f0 : Ty.den T25) (x6 : Ty.den T3) : E45_1 k (j + 1) (x0, x1, (), (x1000200f0, ()), x6, ()) = (
  bif decide (x6 < x1) then
  (E45_1_0 k k (x0, x1, (), (x1000200f0, ()), x6, 0, IntKind.i64.wrap (2 * x6), ())).bind fun y =>
    match y with
    | Sum.inl y => bif decide (IntKind.i64.wrap (y.snd.snd.snd.snd.snd.fst + y.snd.snd.snd.snd.fst) < y.snd.fst) then none else E45_1 k j (y.fst, y.snd.fst, (), (y.snd.snd.snd.fst.fst, ()), IntKind.i64.wrap (y.snd.snd.snd.snd.fst * 2), ())
    | Sum.inr y => nomatch y
  else some (Sum.inl (x0, (), (x1000200f0, ()), ()))) := by kernel_rfl
theorem F45_eq (k : Nat) (x0 : List (Ty.den T3)) (x1 : Ty.den T3) (x3f0 : Ty.den T25) : F45 k (x0, x1, (), (x3f0, ()), ()) = (
(E45_0 k k (x0, x1, (), (x3f0, ()), 20, 0, 20, ())).bind fun y =>
  match y with
  | Sum.inl y =>
    (F64 k (y.fst, y.snd.snd.snd.snd.snd.fst, y.snd.fst, (), (y.snd.snd.snd.fst.fst, ()), ())).bind fun y_1 =>
      (E45_1 k k (y_1.snd.fst, y.snd.fst, (), (y_1.snd.snd.fst.fst, ()), y.snd.snd.snd.snd.fst, ())).bind fun y =>
        match y with
        | Sum.inl y => some ((), y.fst, (y.snd.snd.fst.fst, ()), ())
        | Sum.inr y => nomatch y
  | Sum.inr y => nomatch y) := by kernel_rfl
theorem F31_eq (k : Nat) (x0 : List (Ty.den T3)) (x2f0 : Ty.den T25) : F31 k (x0, (), (x2f0, ()), ()) = (
(F45 k (x0, (↑x0.length : Int), (), (x2f0, ()), ())).bind fun y => some ((), y.snd.fst, (y.snd.snd.fst.fst, ()), ())) := by kernel_rfl
theorem E15_0_eq (k j : Nat) (x3f0 : Ty.den T25) (x5 : List (Ty.den T3)) (x13 : Ty.den T3) (x14 : Ty.den T3) : E15_0 k (j + 1) ((x3f0, ()), x5, x13, x14, ()) = (
  bif decide (x14 < x13) then bif decide ((x5.length + [x14].length) * (7 + 1) ≤ 140737488355328) then E15_0 k j ((x3f0, ()), x5 ++ [x14], x13, IntKind.i64.wrap (x14 + 1), ()) else none else some (Sum.inl ((x3f0, ()), x5, ()))) := by kernel_rfl
theorem F15_eq (k : Nat) (x0 : Ty.den T22) : F15 k (x0, ()) = (
(F10 k (x0, ())).bind fun y =>
  (E15_0 k k ((y.fst.fst, ()), [], (↑(List.length y.fst.fst) : Int), 0, ())).bind fun y =>
    match y with
    | Sum.inl y => (F31 k (y.snd.fst, (), (y.fst.fst, ()), ())).bind fun y => some ((y.snd.fst, ()), ())
    | Sum.inr y => nomatch y) := by kernel_rfl
theorem F17_eq (k : Nat) (x0 : Ty.den T22) (x1 : Ty.den T3) : F17 k (x0, x1, ()) = (
(F24 k (x0, ())).bind fun y => bif bif decide (0 ≤ x1) then decide (x1 < (↑(List.length y.fst.fst) : Int)) else false then bif inb x1 (List.length y.fst.fst) then some ((rd (Ty.i IntKind.i64).l y.fst.fst x1, ()), ()) else none else some (([], ()), ())) := by kernel_rfl
theorem E48_0_eq (k j : Nat) (x0 : Ty.den T25) (x1 : Ty.den T3) (x7 : Ty.den T3) (x8 : Ty.den T3) : E48_0 k (j + 1) (x0, x1, x7, x8, ()) = (
  bif decide (x8 < x7) then bif inb x8 (List.length x0) then bif decide (x1 = rd (Ty.i IntKind.i64) x0 x8) then some (Sum.inr (Sum.inl (x8, ()))) else E48_0 k j (x0, x1, x7, IntKind.i64.wrap (x8 + 1), ()) else none else some (Sum.inl ())) := by kernel_rfl
theorem F48_eq (k : Nat) (x0 : Ty.den T25) (x1 : Ty.den T3) : F48 k (x0, x1, ()) = (
(E48_0 k k (x0, x1, (↑(List.length x0) : Int), 0, ())).bind fun y =>
  match y with
  | Sum.inl y => some ((-1, ()), ())
  | Sum.inr y =>
    match y with
    | Sum.inl y => some ((y.fst, ()), ())
    | Sum.inr y => nomatch y) := by kernel_rfl
theorem F35_eq (k : Nat) (x0 : Ty.den T25) (x1 : Ty.den T3) : F35 k (x0, x1, ()) = (
(F48 k (x0, x1, ())).bind fun y => some ((decide (0 ≤ y.fst.fst), ()), ())) := by kernel_rfl
theorem F75_eq (k : Nat) (x0 : Ty.den T105) : F75 k (x0, ()) = (
  bif decide (65536 ≤ x0) then bif decide (256 ≤ Int.fdiv x0 (2 ^ min (Int.toNat 16) IntKind.u32.bits)) then bif inb (IntKind.u8.wrap ((Int.fdiv x0 (2 ^ min (Int.toNat 16) IntKind.u32.bits)).fdiv (2 ^ min (Int.toNat 8) IntKind.u32.bits))) { data := (([0, 1, 2, 2, 3, 3, 3, 3, 4, 4, 4, 4, 4, 4, 4, 4, 5, 5, 5, 5, 5, 5, 5, 5, 5, 5, 5, 5, 5, 5, 5, 5, 6, 6, 6, 6, 6, 6, 6, 6, 6, 6, 6, 6, 6, 6, 6, 6, 6, 6, 6, 6, 6, 6, 6, 6, 6, 6, 6, 6, 6, 6, 6, 6].append [7, 7, 7, 7, 7, 7, 7, 7, 7, 7, 7, 7, 7, 7, 7, 7, 7, 7, 7, 7, 7, 7, 7, 7, 7, 7, 7, 7, 7, 7, 7, 7, 7, 7, 7, 7, 7, 7, 7, 7, 7, 7, 7, 7, 7, 7, 7, 7, 7, 7, 7, 7, 7, 7, 7, 7, 7, 7, 7, 7, 7, 7, 7, 7]).append ([8, 8, 8, 8, 8, 8, 8, 8, 8, 8, 8, 8, 8, 8, 8, 8, 8, 8, 8, 8, 8, 8, 8, 8, 8, 8, 8, 8, 8, 8, 8, 8, 8, 8, 8, 8, 8, 8, 8, 8, 8, 8, 8, 8, 8, 8, 8, 8, 8, 8, 8, 8, 8, 8, 8, 8, 8, 8, 8, 8, 8, 8, 8, 8].append [8, 8, 8, 8, 8, 8, 8, 8, 8, 8, 8, 8, 8, 8, 8, 8, 8, 8, 8, 8, 8, 8, 8, 8, 8, 8, 8, 8, 8, 8, 8, 8, 8, 8, 8, 8, 8, 8, 8, 8, 8, 8, 8, 8, 8, 8, 8, 8, 8, 8, 8, 8, 8, 8, 8, 8, 8, 8, 8, 8, 8, 8, 8, 8])).toArray : ByteArray }.size then some ((IntKind.i64.wrap (IntKind.i64.wrap (16 + 8) + IntKind.i64.wrap (↑(bt { data := (([0, 1, 2, 2, 3, 3, 3, 3, 4, 4, 4, 4, 4, 4, 4, 4, 5, 5, 5, 5, 5, 5, 5, 5, 5, 5, 5, 5, 5, 5, 5, 5, 6, 6, 6, 6, 6, 6, 6, 6, 6, 6, 6, 6, 6, 6, 6, 6, 6, 6, 6, 6, 6, 6, 6, 6, 6, 6, 6, 6, 6, 6, 6, 6].append [7, 7, 7, 7, 7, 7, 7, 7, 7, 7, 7, 7, 7, 7, 7, 7, 7, 7, 7, 7, 7, 7, 7, 7, 7, 7, 7, 7, 7, 7, 7, 7, 7, 7, 7, 7, 7, 7, 7, 7, 7, 7, 7, 7, 7, 7, 7, 7, 7, 7, 7, 7, 7, 7, 7, 7, 7, 7, 7, 7, 7, 7, 7, 7]).append ([8, 8, 8, 8, 8, 8, 8, 8, 8, 8, 8, 8, 8, 8, 8, 8, 8, 8, 8, 8, 8, 8, 8, 8, 8, 8, 8, 8, 8, 8, 8, 8, 8, 8, 8, 8, 8, 8, 8, 8, 8, 8, 8, 8, 8, 8, 8, 8, 8, 8, 8, 8, 8, 8, 8, 8, 8, 8, 8, 8, 8, 8, 8, 8].append [8, 8, 8, 8, 8, 8, 8, 8, 8, 8, 8, 8, 8, 8, 8, 8, 8, 8, 8, 8, 8, 8, 8, 8, 8, 8, 8, 8, 8, 8, 8, 8, 8, 8, 8, 8, 8, 8, 8, 8, 8, 8, 8, 8, 8, 8, 8, 8, 8, 8, 8, 8, 8, 8, 8, 8, 8, 8, 8, 8, 8, 8, 8, 8])).toArray : ByteArray } (IntKind.u8.wrap ((Int.fdiv x0 (2 ^ min (Int.toNat 16) IntKind.u32.bits)).fdiv (2 ^ min (Int.toNat 8) IntKind.u32.bits)))).toNat : Int)), ()), ()) else none else bif inb (IntKind.u8.wrap (Int.fdiv x0 (2 ^ min (Int.toNat 16) IntKind.u32.bits))) { data := (([0, 1, 2, 2, 3, 3, 3, 3, 4, 4, 4, 4, 4, 4, 4, 4, 5, 5, 5, 5, 5, 5, 5, 5, 5, 5, 5, 5, 5, 5, 5, 5, 6, 6, 6, 6, 6, 6, 6, 6, 6, 6, 6, 6, 6, 6, 6, 6, 6, 6, 6, 6, 6, 6, 6, 6, 6, 6, 6, 6, 6, 6, 6, 6].append [7, 7, 7, 7, 7, 7, 7, 7, 7, 7, 7, 7, 7, 7, 7, 7, 7, 7, 7, 7, 7, 7, 7, 7, 7, 7, 7, 7, 7, 7, 7, 7, 7, 7, 7, 7, 7, 7, 7, 7, 7, 7, 7, 7, 7, 7, 7, 7, 7, 7, 7, 7, 7, 7, 7, 7, 7, 7, 7, 7, 7, 7, 7, 7]).append ([8, 8, 8, 8, 8, 8, 8, 8, 8, 8, 8, 8, 8, 8, 8, 8, 8, 8, 8, 8, 8, 8, 8, 8, 8, 8, 8, 8, 8, 8, 8, 8, 8, 8, 8, 8, 8, 8, 8, 8, 8, 8, 8, 8, 8, 8, 8, 8, 8, 8, 8, 8, 8, 8, 8, 8, 8, 8, 8, 8, 8, 8, 8, 8].append [8, 8, 8, 8, 8, 8, 8, 8, 8, 8, 8, 8, 8, 8, 8, 8, 8, 8, 8, 8, 8, 8, 8, 8, 8, 8, 8, 8, 8, 8, 8, 8, 8, 8, 8, 8, 8, 8, 8, 8, 8, 8, 8, 8, 8, 8, 8, 8, 8, 8, 8, 8, 8, 8, 8, 8, 8, 8, 8, 8, 8, 8, 8, 8])).toArray : ByteArray }.size then some ((IntKind.i64.wrap (16 + IntKind.i64.wrap (↑(bt { data := (([0, 1, 2, 2, 3, 3, 3, 3, 4, 4, 4, 4, 4, 4, 4, 4, 5, 5, 5, 5, 5, 5, 5, 5, 5, 5, 5, 5, 5, 5, 5, 5, 6, 6, 6, 6, 6, 6, 6, 6, 6, 6, 6, 6, 6, 6, 6, 6, 6, 6, 6, 6, 6, 6, 6, 6, 6, 6, 6, 6, 6, 6, 6, 6].append [7, 7, 7, 7, 7, 7, 7, 7, 7, 7, 7, 7, 7, 7, 7, 7, 7, 7, 7, 7, 7, 7, 7, 7, 7, 7, 7, 7, 7, 7, 7, 7, 7, 7, 7, 7, 7, 7, 7, 7, 7, 7, 7, 7, 7, 7, 7, 7, 7, 7, 7, 7, 7, 7, 7, 7, 7, 7, 7, 7, 7, 7, 7, 7]).append ([8, 8, 8, 8, 8, 8, 8, 8, 8, 8, 8, 8, 8, 8, 8, 8, 8, 8, 8, 8, 8, 8, 8, 8, 8, 8, 8, 8, 8, 8, 8, 8, 8, 8, 8, 8, 8, 8, 8, 8, 8, 8, 8, 8, 8, 8, 8, 8, 8, 8, 8, 8, 8, 8, 8, 8, 8, 8, 8, 8, 8, 8, 8, 8].append [8, 8, 8, 8, 8, 8, 8, 8, 8, 8, 8, 8, 8, 8, 8, 8, 8, 8, 8, 8, 8, 8, 8, 8, 8, 8, 8, 8, 8, 8, 8, 8, 8, 8, 8, 8, 8, 8, 8, 8, 8, 8, 8, 8, 8, 8, 8, 8, 8, 8, 8, 8, 8, 8, 8, 8, 8, 8, 8, 8, 8, 8, 8, 8])).toArray : ByteArray } (IntKind.u8.wrap (Int.fdiv x0 (2 ^ min (Int.toNat 16) IntKind.u32.bits)))).toNat : Int)), ()), ()) else none else bif decide (256 ≤ x0) then bif inb (IntKind.u8.wrap (Int.fdiv x0 (2 ^ min (Int.toNat 8) IntKind.u32.bits))) { data := (([0, 1, 2, 2, 3, 3, 3, 3, 4, 4, 4, 4, 4, 4, 4, 4, 5, 5, 5, 5, 5, 5, 5, 5, 5, 5, 5, 5, 5, 5, 5, 5, 6, 6, 6, 6, 6, 6, 6, 6, 6, 6, 6, 6, 6, 6, 6, 6, 6, 6, 6, 6, 6, 6, 6, 6, 6, 6, 6, 6, 6, 6, 6, 6].append [7, 7, 7, 7, 7, 7, 7, 7, 7, 7, 7, 7, 7, 7, 7, 7, 7, 7, 7, 7, 7, 7, 7, 7, 7, 7, 7, 7, 7, 7, 7, 7, 7, 7, 7, 7, 7, 7, 7, 7, 7, 7, 7, 7, 7, 7, 7, 7, 7, 7, 7, 7, 7, 7, 7, 7, 7, 7, 7, 7, 7, 7, 7, 7]).append ([8, 8, 8, 8, 8, 8, 8, 8, 8, 8, 8, 8, 8, 8, 8, 8, 8, 8, 8, 8, 8, 8, 8, 8, 8, 8, 8, 8, 8, 8, 8, 8, 8, 8, 8, 8, 8, 8, 8, 8, 8, 8, 8, 8, 8, 8, 8, 8, 8, 8, 8, 8, 8, 8, 8, 8, 8, 8, 8, 8, 8, 8, 8, 8].append [8, 8, 8, 8, 8, 8, 8, 8, 8, 8, 8, 8, 8, 8, 8, 8, 8, 8, 8, 8, 8, 8, 8, 8, 8, 8, 8, 8, 8, 8, 8, 8, 8, 8, 8, 8, 8, 8, 8, 8, 8, 8, 8, 8, 8, 8, 8, 8, 8, 8, 8, 8, 8, 8, 8, 8, 8, 8, 8, 8, 8, 8, 8, 8])).toArray : ByteArray }.size then some ((IntKind.i64.wrap (IntKind.i64.wrap (0 + 8) + IntKind.i64.wrap (↑(bt { data := (([0, 1, 2, 2, 3, 3, 3, 3, 4, 4, 4, 4, 4, 4, 4, 4, 5, 5, 5, 5, 5, 5, 5, 5, 5, 5, 5, 5, 5, 5, 5, 5, 6, 6, 6, 6, 6, 6, 6, 6, 6, 6, 6, 6, 6, 6, 6, 6, 6, 6, 6, 6, 6, 6, 6, 6, 6, 6, 6, 6, 6, 6, 6, 6].append [7, 7, 7, 7, 7, 7, 7, 7, 7, 7, 7, 7, 7, 7, 7, 7, 7, 7, 7, 7, 7, 7, 7, 7, 7, 7, 7, 7, 7, 7, 7, 7, 7, 7, 7, 7, 7, 7, 7, 7, 7, 7, 7, 7, 7, 7, 7, 7, 7, 7, 7, 7, 7, 7, 7, 7, 7, 7, 7, 7, 7, 7, 7, 7]).append ([8, 8, 8, 8, 8, 8, 8, 8, 8, 8, 8, 8, 8, 8, 8, 8, 8, 8, 8, 8, 8, 8, 8, 8, 8, 8, 8, 8, 8, 8, 8, 8, 8, 8, 8, 8, 8, 8, 8, 8, 8, 8, 8, 8, 8, 8, 8, 8, 8, 8, 8, 8, 8, 8, 8, 8, 8, 8, 8, 8, 8, 8, 8, 8].append [8, 8, 8, 8, 8, 8, 8, 8, 8, 8, 8, 8, 8, 8, 8, 8, 8, 8, 8, 8, 8, 8, 8, 8, 8, 8, 8, 8, 8, 8, 8, 8, 8, 8, 8, 8, 8, 8, 8, 8, 8, 8, 8, 8, 8, 8, 8, 8, 8, 8, 8, 8, 8, 8, 8, 8, 8, 8, 8, 8, 8, 8, 8, 8])).toArray : ByteArray } (IntKind.u8.wrap (Int.fdiv x0 (2 ^ min (Int.toNat 8) IntKind.u32.bits)))).toNat : Int)), ()), ()) else none else bif inb (IntKind.u8.wrap x0) { data := (([0, 1, 2, 2, 3, 3, 3, 3, 4, 4, 4, 4, 4, 4, 4, 4, 5, 5, 5, 5, 5, 5, 5, 5, 5, 5, 5, 5, 5, 5, 5, 5, 6, 6, 6, 6, 6, 6, 6, 6, 6, 6, 6, 6, 6, 6, 6, 6, 6, 6, 6, 6, 6, 6, 6, 6, 6, 6, 6, 6, 6, 6, 6, 6].append [7, 7, 7, 7, 7, 7, 7, 7, 7, 7, 7, 7, 7, 7, 7, 7, 7, 7, 7, 7, 7, 7, 7, 7, 7, 7, 7, 7, 7, 7, 7, 7, 7, 7, 7, 7, 7, 7, 7, 7, 7, 7, 7, 7, 7, 7, 7, 7, 7, 7, 7, 7, 7, 7, 7, 7, 7, 7, 7, 7, 7, 7, 7, 7]).append ([8, 8, 8, 8, 8, 8, 8, 8, 8, 8, 8, 8, 8, 8, 8, 8, 8, 8, 8, 8, 8, 8, 8, 8, 8, 8, 8, 8, 8, 8, 8, 8, 8, 8, 8, 8, 8, 8, 8, 8, 8, 8, 8, 8, 8, 8, 8, 8, 8, 8, 8, 8, 8, 8, 8, 8, 8, 8, 8, 8, 8, 8, 8, 8].append [8, 8, 8, 8, 8, 8, 8, 8, 8, 8, 8, 8, 8, 8, 8, 8, 8, 8, 8, 8, 8, 8, 8, 8, 8, 8, 8, 8, 8, 8, 8, 8, 8, 8, 8, 8, 8, 8, 8, 8, 8, 8, 8, 8, 8, 8, 8, 8, 8, 8, 8, 8, 8, 8, 8, 8, 8, 8, 8, 8, 8, 8, 8, 8])).toArray : ByteArray }.size then some ((IntKind.i64.wrap (0 + IntKind.i64.wrap (↑(bt { data := (([0, 1, 2, 2, 3, 3, 3, 3, 4, 4, 4, 4, 4, 4, 4, 4, 5, 5, 5, 5, 5, 5, 5, 5, 5, 5, 5, 5, 5, 5, 5, 5, 6, 6, 6, 6, 6, 6, 6, 6, 6, 6, 6, 6, 6, 6, 6, 6, 6, 6, 6, 6, 6, 6, 6, 6, 6, 6, 6, 6, 6, 6, 6, 6].append [7, 7, 7, 7, 7, 7, 7, 7, 7, 7, 7, 7, 7, 7, 7, 7, 7, 7, 7, 7, 7, 7, 7, 7, 7, 7, 7, 7, 7, 7, 7, 7, 7, 7, 7, 7, 7, 7, 7, 7, 7, 7, 7, 7, 7, 7, 7, 7, 7, 7, 7, 7, 7, 7, 7, 7, 7, 7, 7, 7, 7, 7, 7, 7]).append ([8, 8, 8, 8, 8, 8, 8, 8, 8, 8, 8, 8, 8, 8, 8, 8, 8, 8, 8, 8, 8, 8, 8, 8, 8, 8, 8, 8, 8, 8, 8, 8, 8, 8, 8, 8, 8, 8, 8, 8, 8, 8, 8, 8, 8, 8, 8, 8, 8, 8, 8, 8, 8, 8, 8, 8, 8, 8, 8, 8, 8, 8, 8, 8].append [8, 8, 8, 8, 8, 8, 8, 8, 8, 8, 8, 8, 8, 8, 8, 8, 8, 8, 8, 8, 8, 8, 8, 8, 8, 8, 8, 8, 8, 8, 8, 8, 8, 8, 8, 8, 8, 8, 8, 8, 8, 8, 8, 8, 8, 8, 8, 8, 8, 8, 8, 8, 8, 8, 8, 8, 8, 8, 8, 8, 8, 8, 8, 8])).toArray : ByteArray } (IntKind.u8.wrap x0)).toNat : Int)), ()), ()) else none) := by kernel_rfl
theorem F76_eq (k : Nat) (x0 : Ty.den T107) : F76 k (x0, ()) = (
  bif decide (4294967296 ≤ x0) then bif decide (65536 ≤ Int.fdiv x0 (2 ^ min (Int.toNat 32) IntKind.u64.bits)) then bif decide (256 ≤ (Int.fdiv x0 (2 ^ min (Int.toNat 32) IntKind.u64.bits)).fdiv (2 ^ min (Int.toNat 16) IntKind.u64.bits)) then bif inb (IntKind.u8.wrap (((Int.fdiv x0 (2 ^ min (Int.toNat 32) IntKind.u64.bits)).fdiv (2 ^ min (Int.toNat 16) IntKind.u64.bits)).fdiv (2 ^ min (Int.toNat 8) IntKind.u64.bits))) { data := (([0, 1, 2, 2, 3, 3, 3, 3, 4, 4, 4, 4, 4, 4, 4, 4, 5, 5, 5, 5, 5, 5, 5, 5, 5, 5, 5, 5, 5, 5, 5, 5, 6, 6, 6, 6, 6, 6, 6, 6, 6, 6, 6, 6, 6, 6, 6, 6, 6, 6, 6, 6, 6, 6, 6, 6, 6, 6, 6, 6, 6, 6, 6, 6].append [7, 7, 7, 7, 7, 7, 7, 7, 7, 7, 7, 7, 7, 7, 7, 7, 7, 7, 7, 7, 7, 7, 7, 7, 7, 7, 7, 7, 7, 7, 7, 7, 7, 7, 7, 7, 7, 7, 7, 7, 7, 7, 7, 7, 7, 7, 7, 7, 7, 7, 7, 7, 7, 7, 7, 7, 7, 7, 7, 7, 7, 7, 7, 7]).append ([8, 8, 8, 8, 8, 8, 8, 8, 8, 8, 8, 8, 8, 8, 8, 8, 8, 8, 8, 8, 8, 8, 8, 8, 8, 8, 8, 8, 8, 8, 8, 8, 8, 8, 8, 8, 8, 8, 8, 8, 8, 8, 8, 8, 8, 8, 8, 8, 8, 8, 8, 8, 8, 8, 8, 8, 8, 8, 8, 8, 8, 8, 8, 8].append [8, 8, 8, 8, 8, 8, 8, 8, 8, 8, 8, 8, 8, 8, 8, 8, 8, 8, 8, 8, 8, 8, 8, 8, 8, 8, 8, 8, 8, 8, 8, 8, 8, 8, 8, 8, 8, 8, 8, 8, 8, 8, 8, 8, 8, 8, 8, 8, 8, 8, 8, 8, 8, 8, 8, 8, 8, 8, 8, 8, 8, 8, 8, 8])).toArray : ByteArray }.size then some ((IntKind.i64.wrap (IntKind.i64.wrap (IntKind.i64.wrap (32 + 16) + 8) + IntKind.i64.wrap (↑(bt { data := (([0, 1, 2, 2, 3, 3, 3, 3, 4, 4, 4, 4, 4, 4, 4, 4, 5, 5, 5, 5, 5, 5, 5, 5, 5, 5, 5, 5, 5, 5, 5, 5, 6, 6, 6, 6, 6, 6, 6, 6, 6, 6, 6, 6, 6, 6, 6, 6, 6, 6, 6, 6, 6, 6, 6, 6, 6, 6, 6, 6, 6, 6, 6, 6].append [7, 7, 7, 7, 7, 7, 7, 7, 7, 7, 7, 7, 7, 7, 7, 7, 7, 7, 7, 7, 7, 7, 7, 7, 7, 7, 7, 7, 7, 7, 7, 7, 7, 7, 7, 7, 7, 7, 7, 7, 7, 7, 7, 7, 7, 7, 7, 7, 7, 7, 7, 7, 7, 7, 7, 7, 7, 7, 7, 7, 7, 7, 7, 7]).append ([8, 8, 8, 8, 8, 8, 8, 8, 8, 8, 8, 8, 8, 8, 8, 8, 8, 8, 8, 8, 8, 8, 8, 8, 8, 8, 8, 8, 8, 8, 8, 8, 8, 8, 8, 8, 8, 8, 8, 8, 8, 8, 8, 8, 8, 8, 8, 8, 8, 8, 8, 8, 8, 8, 8, 8, 8, 8, 8, 8, 8, 8, 8, 8].append [8, 8, 8, 8, 8, 8, 8, 8, 8, 8, 8, 8, 8, 8, 8, 8, 8, 8, 8, 8, 8, 8, 8, 8, 8, 8, 8, 8, 8, 8, 8, 8, 8, 8, 8, 8, 8, 8, 8, 8, 8, 8, 8, 8, 8, 8, 8, 8, 8, 8, 8, 8, 8, 8, 8, 8, 8, 8, 8, 8, 8, 8, 8, 8])).toArray : ByteArray } (IntKind.u8.wrap (((Int.fdiv x0 (2 ^ min (Int.toNat 32) IntKind.u64.bits)).fdiv (2 ^ min (Int.toNat 16) IntKind.u64.bits)).fdiv (2 ^ min (Int.toNat 8) IntKind.u64.bits)))).toNat : Int)), ()), ()) else none else bif inb (IntKind.u8.wrap ((Int.fdiv x0 (2 ^ min (Int.toNat 32) IntKind.u64.bits)).fdiv (2 ^ min (Int.toNat 16) IntKind.u64.bits))) { data := (([0, 1, 2, 2, 3, 3, 3, 3, 4, 4, 4, 4, 4, 4, 4, 4, 5, 5, 5, 5, 5, 5, 5, 5, 5, 5, 5, 5, 5, 5, 5, 5, 6, 6, 6, 6, 6, 6, 6, 6, 6, 6, 6, 6, 6, 6, 6, 6, 6, 6, 6, 6, 6, 6, 6, 6, 6, 6, 6, 6, 6, 6, 6, 6].append [7, 7, 7, 7, 7, 7, 7, 7, 7, 7, 7, 7, 7, 7, 7, 7, 7, 7, 7, 7, 7, 7, 7, 7, 7, 7, 7, 7, 7, 7, 7, 7, 7, 7, 7, 7, 7, 7, 7, 7, 7, 7, 7, 7, 7, 7, 7, 7, 7, 7, 7, 7, 7, 7, 7, 7, 7, 7, 7, 7, 7, 7, 7, 7]).append ([8, 8, 8, 8, 8, 8, 8, 8, 8, 8, 8, 8, 8, 8, 8, 8, 8, 8, 8, 8, 8, 8, 8, 8, 8, 8, 8, 8, 8, 8, 8, 8, 8, 8, 8, 8, 8, 8, 8, 8, 8, 8, 8, 8, 8, 8, 8, 8, 8, 8, 8, 8, 8, 8, 8, 8, 8, 8, 8, 8, 8, 8, 8, 8].append [8, 8, 8, 8, 8, 8, 8, 8, 8, 8, 8, 8, 8, 8, 8, 8, 8, 8, 8, 8, 8, 8, 8, 8, 8, 8, 8, 8, 8, 8, 8, 8, 8, 8, 8, 8, 8, 8, 8, 8, 8, 8, 8, 8, 8, 8, 8, 8, 8, 8, 8, 8, 8, 8, 8, 8, 8, 8, 8, 8, 8, 8, 8, 8])).toArray : ByteArray }.size then some ((IntKind.i64.wrap (IntKind.i64.wrap (32 + 16) + IntKind.i64.wrap (↑(bt { data := (([0, 1, 2, 2, 3, 3, 3, 3, 4, 4, 4, 4, 4, 4, 4, 4, 5, 5, 5, 5, 5, 5, 5, 5, 5, 5, 5, 5, 5, 5, 5, 5, 6, 6, 6, 6, 6, 6, 6, 6, 6, 6, 6, 6, 6, 6, 6, 6, 6, 6, 6, 6, 6, 6, 6, 6, 6, 6, 6, 6, 6, 6, 6, 6].append [7, 7, 7, 7, 7, 7, 7, 7, 7, 7, 7, 7, 7, 7, 7, 7, 7, 7, 7, 7, 7, 7, 7, 7, 7, 7, 7, 7, 7, 7, 7, 7, 7, 7, 7, 7, 7, 7, 7, 7, 7, 7, 7, 7, 7, 7, 7, 7, 7, 7, 7, 7, 7, 7, 7, 7, 7, 7, 7, 7, 7, 7, 7, 7]).append ([8, 8, 8, 8, 8, 8, 8, 8, 8, 8, 8, 8, 8, 8, 8, 8, 8, 8, 8, 8, 8, 8, 8, 8, 8, 8, 8, 8, 8, 8, 8, 8, 8, 8, 8, 8, 8, 8, 8, 8, 8, 8, 8, 8, 8, 8, 8, 8, 8, 8, 8, 8, 8, 8, 8, 8, 8, 8, 8, 8, 8, 8, 8, 8].append [8, 8, 8, 8, 8, 8, 8, 8, 8, 8, 8, 8, 8, 8, 8, 8, 8, 8, 8, 8, 8, 8, 8, 8, 8, 8, 8, 8, 8, 8, 8, 8, 8, 8, 8, 8, 8, 8, 8, 8, 8, 8, 8, 8, 8, 8, 8, 8, 8, 8, 8, 8, 8, 8, 8, 8, 8, 8, 8, 8, 8, 8, 8, 8])).toArray : ByteArray } (IntKind.u8.wrap ((Int.fdiv x0 (2 ^ min (Int.toNat 32) IntKind.u64.bits)).fdiv (2 ^ min (Int.toNat 16) IntKind.u64.bits)))).toNat : Int)), ()), ()) else none else bif decide (256 ≤ Int.fdiv x0 (2 ^ min (Int.toNat 32) IntKind.u64.bits)) then bif inb (IntKind.u8.wrap ((Int.fdiv x0 (2 ^ min (Int.toNat 32) IntKind.u64.bits)).fdiv (2 ^ min (Int.toNat 8) IntKind.u64.bits))) { data := (([0, 1, 2, 2, 3, 3, 3, 3, 4, 4, 4, 4, 4, 4, 4, 4, 5, 5, 5, 5, 5, 5, 5, 5, 5, 5, 5, 5, 5, 5, 5, 5, 6, 6, 6, 6, 6, 6, 6, 6, 6, 6, 6, 6, 6, 6, 6, 6, 6, 6, 6, 6, 6, 6, 6, 6, 6, 6, 6, 6, 6, 6, 6, 6].append [7, 7, 7, 7, 7, 7, 7, 7, 7, 7, 7, 7, 7, 7, 7, 7, 7, 7, 7, 7, 7, 7, 7, 7, 7, 7, 7, 7, 7, 7, 7, 7, 7, 7, 7, 7, 7, 7, 7, 7, 7, 7, 7, 7, 7, 7, 7, 7, 7, 7, 7, 7, 7, 7, 7, 7, 7, 7, 7, 7, 7, 7, 7, 7]).append ([8, 8, 8, 8, 8, 8, 8, 8, 8, 8, 8, 8, 8, 8, 8, 8, 8, 8, 8, 8, 8, 8, 8, 8, 8, 8, 8, 8, 8, 8, 8, 8, 8, 8, 8, 8, 8, 8, 8, 8, 8, 8, 8, 8, 8, 8, 8, 8, 8, 8, 8, 8, 8, 8, 8, 8, 8, 8, 8, 8, 8, 8, 8, 8].append [8, 8, 8, 8, 8, 8, 8, 8, 8, 8, 8, 8, 8, 8, 8, 8, 8, 8, 8, 8, 8, 8, 8, 8, 8, 8, 8, 8, 8, 8, 8, 8, 8, 8, 8, 8, 8, 8, 8, 8, 8, 8, 8, 8, 8, 8, 8, 8, 8, 8, 8, 8, 8, 8, 8, 8, 8, 8, 8, 8, 8, 8, 8, 8])).toArray : ByteArray }.size then some ((IntKind.i64.wrap (IntKind.i64.wrap (32 + 8) + IntKind.i64.wrap (↑(bt { data := (([0, 1, 2, 2, 3, 3, 3, 3, 4, 4, 4, 4, 4, 4, 4, 4, 5, 5, 5, 5, 5, 5, 5, 5, 5, 5, 5, 5, 5, 5, 5, 5, 6, 6, 6, 6, 6, 6, 6, 6, 6, 6, 6, 6, 6, 6, 6, 6, 6, 6, 6, 6, 6, 6, 6, 6, 6, 6, 6, 6, 6, 6, 6, 6].append [7, 7, 7, 7, 7, 7, 7, 7, 7, 7, 7, 7, 7, 7, 7, 7, 7, 7, 7, 7, 7, 7, 7, 7, 7, 7, 7, 7, 7, 7, 7, 7, 7, 7, 7, 7, 7, 7, 7, 7, 7, 7, 7, 7, 7, 7, 7, 7, 7, 7, 7, 7, 7, 7, 7, 7, 7, 7, 7, 7, 7, 7, 7, 7]).append ([8, 8, 8, 8, 8, 8, 8, 8, 8, 8, 8, 8, 8, 8, 8, 8, 8, 8, 8, 8, 8, 8, 8, 8, 8, 8, 8, 8, 8, 8, 8, 8, 8, 8, 8, 8, 8, 8, 8, 8, 8, 8, 8, 8, 8, 8, 8, 8, 8, 8, 8, 8, 8, 8, 8, 8, 8, 8, 8, 8, 8, 8, 8, 8].append [8, 8, 8, 8, 8, 8, 8, 8, 8, 8, 8, 8, 8, 8, 8, 8, 8, 8, 8, 8, 8, 8, 8, 8, 8, 8, 8, 8, 8, 8, 8, 8, 8, 8, 8, 8, 8, 8, 8, 8, 8, 8, 8, 8, 8, 8, 8, 8, 8, 8, 8, 8, 8, 8, 8, 8, 8, 8, 8, 8, 8, 8, 8, 8])).toArray : ByteArray } (IntKind.u8.wrap ((Int.fdiv x0 (2 ^ min (Int.toNat 32) IntKind.u64.bits)).fdiv (2 ^ min (Int.toNat 8) IntKind.u64.bits)))).toNat : Int)), ()), ()) else none else bif inb (IntKind.u8.wrap (Int.fdiv x0 (2 ^ min (Int.toNat 32) IntKind.u64.bits))) { data := (([0, 1, 2, 2, 3, 3, 3, 3, 4, 4, 4, 4, 4, 4, 4, 4, 5, 5, 5, 5, 5, 5, 5, 5, 5, 5, 5, 5, 5, 5, 5, 5, 6, 6, 6, 6, 6, 6, 6, 6, 6, 6, 6, 6, 6, 6, 6, 6, 6, 6, 6, 6, 6, 6, 6, 6, 6, 6, 6, 6, 6, 6, 6, 6].append [7, 7, 7, 7, 7, 7, 7, 7, 7, 7, 7, 7, 7, 7, 7, 7, 7, 7, 7, 7, 7, 7, 7, 7, 7, 7, 7, 7, 7, 7, 7, 7, 7, 7, 7, 7, 7, 7, 7, 7, 7, 7, 7, 7, 7, 7, 7, 7, 7, 7, 7, 7, 7, 7, 7, 7, 7, 7, 7, 7, 7, 7, 7, 7]).append ([8, 8, 8, 8, 8, 8, 8, 8, 8, 8, 8, 8, 8, 8, 8, 8, 8, 8, 8, 8, 8, 8, 8, 8, 8, 8, 8, 8, 8, 8, 8, 8, 8, 8, 8, 8, 8, 8, 8, 8, 8, 8, 8, 8, 8, 8, 8, 8, 8, 8, 8, 8, 8, 8, 8, 8, 8, 8, 8, 8, 8, 8, 8, 8].append [8, 8, 8, 8, 8, 8, 8, 8, 8, 8, 8, 8, 8, 8, 8, 8, 8, 8, 8, 8, 8, 8, 8, 8, 8, 8, 8, 8, 8, 8, 8, 8, 8, 8, 8, 8, 8, 8, 8, 8, 8, 8, 8, 8, 8, 8, 8, 8, 8, 8, 8, 8, 8, 8, 8, 8, 8, 8, 8, 8, 8, 8, 8, 8])).toArray : ByteArray }.size then some ((IntKind.i64.wrap (32 + IntKind.i64.wrap (↑(bt { data := (([0, 1, 2, 2, 3, 3, 3, 3, 4, 4, 4, 4, 4, 4, 4, 4, 5, 5, 5, 5, 5, 5, 5, 5, 5, 5, 5, 5, 5, 5, 5, 5, 6, 6, 6, 6, 6, 6, 6, 6, 6, 6, 6, 6, 6, 6, 6, 6, 6, 6, 6, 6, 6, 6, 6, 6, 6, 6, 6, 6, 6, 6, 6, 6].append [7, 7, 7, 7, 7, 7, 7, 7, 7, 7, 7, 7, 7, 7, 7, 7, 7, 7, 7, 7, 7, 7, 7, 7, 7, 7, 7, 7, 7, 7, 7, 7, 7, 7, 7, 7, 7, 7, 7, 7, 7, 7, 7, 7, 7, 7, 7, 7, 7, 7, 7, 7, 7, 7, 7, 7, 7, 7, 7, 7, 7, 7, 7, 7]).append ([8, 8, 8, 8, 8, 8, 8, 8, 8, 8, 8, 8, 8, 8, 8, 8, 8, 8, 8, 8, 8, 8, 8, 8, 8, 8, 8, 8, 8, 8, 8, 8, 8, 8, 8, 8, 8, 8, 8, 8, 8, 8, 8, 8, 8, 8, 8, 8, 8, 8, 8, 8, 8, 8, 8, 8, 8, 8, 8, 8, 8, 8, 8, 8].append [8, 8, 8, 8, 8, 8, 8, 8, 8, 8, 8, 8, 8, 8, 8, 8, 8, 8, 8, 8, 8, 8, 8, 8, 8, 8, 8, 8, 8, 8, 8, 8, 8, 8, 8, 8, 8, 8, 8, 8, 8, 8, 8, 8, 8, 8, 8, 8, 8, 8, 8, 8, 8, 8, 8, 8, 8, 8, 8, 8, 8, 8, 8, 8])).toArray : ByteArray } (IntKind.u8.wrap (Int.fdiv x0 (2 ^ min (Int.toNat 32) IntKind.u64.bits)))).toNat : Int)), ()), ()) else none else bif decide (65536 ≤ x0) then bif decide (256 ≤ Int.fdiv x0 (2 ^ min (Int.toNat 16) IntKind.u64.bits)) then bif inb (IntKind.u8.wrap ((Int.fdiv x0 (2 ^ min (Int.toNat 16) IntKind.u64.bits)).fdiv (2 ^ min (Int.toNat 8) IntKind.u64.bits))) { data := (([0, 1, 2, 2, 3, 3, 3, 3, 4, 4, 4, 4, 4, 4, 4, 4, 5, 5, 5, 5, 5, 5, 5, 5, 5, 5, 5, 5, 5, 5, 5, 5, 6, 6, 6, 6, 6, 6, 6, 6, 6, 6, 6, 6, 6, 6, 6, 6, 6, 6, 6, 6, 6, 6, 6, 6, 6, 6, 6, 6, 6, 6, 6, 6].append [7, 7, 7, 7, 7, 7, 7, 7, 7, 7, 7, 7, 7, 7, 7, 7, 7, 7, 7, 7, 7, 7, 7, 7, 7, 7, 7, 7, 7, 7, 7, 7, 7, 7, 7, 7, 7, 7, 7, 7, 7, 7, 7, 7, 7, 7, 7, 7, 7, 7, 7, 7, 7, 7, 7, 7, 7, 7, 7, 7, 7, 7, 7, 7]).append ([8, 8, 8, 8, 8, 8, 8, 8, 8, 8, 8, 8, 8, 8, 8, 8, 8, 8, 8, 8, 8, 8, 8, 8, 8, 8, 8, 8, 8, 8, 8, 8, 8, 8, 8, 8, 8, 8, 8, 8, 8, 8, 8, 8, 8, 8, 8, 8, 8, 8, 8, 8, 8, 8, 8, 8, 8, 8, 8, 8, 8, 8, 8, 8].append [8, 8, 8, 8, 8, 8, 8, 8, 8, 8, 8, 8, 8, 8, 8, 8, 8, 8, 8, 8, 8, 8, 8, 8, 8, 8, 8, 8, 8, 8, 8, 8, 8, 8, 8, 8, 8, 8, 8, 8, 8, 8, 8, 8, 8, 8, 8, 8, 8, 8, 8, 8, 8, 8, 8, 8, 8, 8, 8, 8, 8, 8, 8, 8])).toArray : ByteArray }.size then some ((IntKind.i64.wrap (IntKind.i64.wrap (IntKind.i64.wrap (0 + 16) + 8) + IntKind.i64.wrap (↑(bt { data := (([0, 1, 2, 2, 3, 3, 3, 3, 4, 4, 4, 4, 4, 4, 4, 4, 5, 5, 5, 5, 5, 5, 5, 5, 5, 5, 5, 5, 5, 5, 5, 5, 6, 6, 6, 6, 6, 6, 6, 6, 6, 6, 6, 6, 6, 6, 6, 6, 6, 6, 6, 6, 6, 6, 6, 6, 6, 6, 6, 6, 6, 6, 6, 6].append [7, 7, 7, 7, 7, 7, 7, 7, 7, 7, 7, 7, 7, 7, 7, 7, 7, 7, 7, 7, 7, 7, 7, 7, 7, 7, 7, 7, 7, 7, 7, 7, 7, 7, 7, 7, 7, 7, 7, 7, 7, 7, 7, 7, 7, 7, 7, 7, 7, 7, 7, 7, 7, 7, 7, 7, 7, 7, 7, 7, 7, 7, 7, 7]).append ([8, 8, 8, 8, 8, 8, 8, 8, 8, 8, 8, 8, 8, 8, 8, 8, 8, 8, 8, 8, 8, 8, 8, 8, 8, 8, 8, 8, 8, 8, 8, 8, 8, 8, 8, 8, 8, 8, 8, 8, 8, 8, 8, 8, 8, 8, 8, 8, 8, 8, 8, 8, 8, 8, 8, 8, 8, 8, 8, 8, 8, 8, 8, 8].append [8, 8, 8, 8, 8, 8, 8, 8, 8, 8, 8, 8, 8, 8, 8, 8, 8, 8, 8, 8, 8, 8, 8, 8, 8, 8, 8, 8, 8, 8, 8, 8, 8, 8, 8, 8, 8, 8, 8, 8, 8, 8, 8, 8, 8, 8, 8, 8, 8, 8, 8, 8, 8, 8, 8, 8, 8, 8, 8, 8, 8, 8, 8, 8])).toArray : ByteArray } (IntKind.u8.wrap ((Int.fdiv x0 (2 ^ min (Int.toNat 16) IntKind.u64.bits)).fdiv (2 ^ min (Int.toNat 8) IntKind.u64.bits)))).toNat : Int)), ()), ()) else none else bif inb (IntKind.u8.wrap (Int.fdiv x0 (2 ^ min (Int.toNat 16) IntKind.u64.bits))) { data := (([0, 1, 2, 2, 3, 3, 3, 3, 4, 4, 4, 4, 4, 4, 4, 4, 5, 5, 5, 5, 5, 5, 5, 5, 5, 5, 5, 5, 5, 5, 5, 5, 6, 6, 6, 6, 6, 6, 6, 6, 6, 6, 6, 6, 6, 6, 6, 6, 6, 6, 6, 6, 6, 6, 6, 6, 6, 6, 6, 6, 6, 6, 6, 6].append [7, 7, 7, 7, 7, 7, 7, 7, 7, 7, 7, 7, 7, 7, 7, 7, 7, 7, 7, 7, 7, 7, 7, 7, 7, 7, 7, 7, 7, 7, 7, 7, 7, 7, 7, 7, 7, 7, 7, 7, 7, 7, 7, 7, 7, 7, 7, 7, 7, 7, 7, 7, 7, 7, 7, 7, 7, 7, 7, 7, 7, 7, 7, 7]).append ([8, 8, 8, 8, 8, 8, 8, 8, 8, 8, 8, 8, 8, 8, 8, 8, 8, 8, 8, 8, 8, 8, 8, 8, 8, 8, 8, 8, 8, 8, 8, 8, 8, 8, 8, 8, 8, 8, 8, 8, 8, 8, 8, 8, 8, 8, 8, 8, 8, 8, 8, 8, 8, 8, 8, 8, 8, 8, 8, 8, 8, 8, 8, 8].append [8, 8, 8, 8, 8, 8, 8, 8, 8, 8, 8, 8, 8, 8, 8, 8, 8, 8, 8, 8, 8, 8, 8, 8, 8, 8, 8, 8, 8, 8, 8, 8, 8, 8, 8, 8, 8, 8, 8, 8, 8, 8, 8, 8, 8, 8, 8, 8, 8, 8, 8, 8, 8, 8, 8, 8, 8, 8, 8, 8, 8, 8, 8, 8])).toArray : ByteArray }.size then some ((IntKind.i64.wrap (IntKind.i64.wrap (0 + 16) + IntKind.i64.wrap (↑(bt { data := (([0, 1, 2, 2, 3, 3, 3, 3, 4, 4, 4, 4, 4, 4, 4, 4, 5, 5, 5, 5, 5, 5, 5, 5, 5, 5, 5, 5, 5, 5, 5, 5, 6, 6, 6, 6, 6, 6, 6, 6, 6, 6, 6, 6, 6, 6, 6, 6, 6, 6, 6, 6, 6, 6, 6, 6, 6, 6, 6, 6, 6, 6, 6, 6].append [7, 7, 7, 7, 7, 7, 7, 7, 7, 7, 7, 7, 7, 7, 7, 7, 7, 7, 7, 7, 7, 7, 7, 7, 7, 7, 7, 7, 7, 7, 7, 7, 7, 7, 7, 7, 7, 7, 7, 7, 7, 7, 7, 7, 7, 7, 7, 7, 7, 7, 7, 7, 7, 7, 7, 7, 7, 7, 7, 7, 7, 7, 7, 7]).append ([8, 8, 8, 8, 8, 8, 8, 8, 8, 8, 8, 8, 8, 8, 8, 8, 8, 8, 8, 8, 8, 8, 8, 8, 8, 8, 8, 8, 8, 8, 8, 8, 8, 8, 8, 8, 8, 8, 8, 8, 8, 8, 8, 8, 8, 8, 8, 8, 8, 8, 8, 8, 8, 8, 8, 8, 8, 8, 8, 8, 8, 8, 8, 8].append [8, 8, 8, 8, 8, 8, 8, 8, 8, 8, 8, 8, 8, 8, 8, 8, 8, 8, 8, 8, 8, 8, 8, 8, 8, 8, 8, 8, 8, 8, 8, 8, 8, 8, 8, 8, 8, 8, 8, 8, 8, 8, 8, 8, 8, 8, 8, 8, 8, 8, 8, 8, 8, 8, 8, 8, 8, 8, 8, 8, 8, 8, 8, 8])).toArray : ByteArray } (IntKind.u8.wrap (Int.fdiv x0 (2 ^ min (Int.toNat 16) IntKind.u64.bits)))).toNat : Int)), ()), ()) else none else bif decide (256 ≤ x0) then bif inb (IntKind.u8.wrap (Int.fdiv x0 (2 ^ min (Int.toNat 8) IntKind.u64.bits))) { data := (([0, 1, 2, 2, 3, 3, 3, 3, 4, 4, 4, 4, 4, 4, 4, 4, 5, 5, 5, 5, 5, 5, 5, 5, 5, 5, 5, 5, 5, 5, 5, 5, 6, 6, 6, 6, 6, 6, 6, 6, 6, 6, 6, 6, 6, 6, 6, 6, 6, 6, 6, 6, 6, 6, 6, 6, 6, 6, 6, 6, 6, 6, 6, 6].append [7, 7, 7, 7, 7, 7, 7, 7, 7, 7, 7, 7, 7, 7, 7, 7, 7, 7, 7, 7, 7, 7, 7, 7, 7, 7, 7, 7, 7, 7, 7, 7, 7, 7, 7, 7, 7, 7, 7, 7, 7, 7, 7, 7, 7, 7, 7, 7, 7, 7, 7, 7, 7, 7, 7, 7, 7, 7, 7, 7, 7, 7, 7, 7]).append ([8, 8, 8, 8, 8, 8, 8, 8, 8, 8, 8, 8, 8, 8, 8, 8, 8, 8, 8, 8, 8, 8, 8, 8, 8, 8, 8, 8, 8, 8, 8, 8, 8, 8, 8, 8, 8, 8, 8, 8, 8, 8, 8, 8, 8, 8, 8, 8, 8, 8, 8, 8, 8, 8, 8, 8, 8, 8, 8, 8, 8, 8, 8, 8].append [8, 8, 8, 8, 8, 8, 8, 8, 8, 8, 8, 8, 8, 8, 8, 8, 8, 8, 8, 8, 8, 8, 8, 8, 8, 8, 8, 8, 8, 8, 8, 8, 8, 8, 8, 8, 8, 8, 8, 8, 8, 8, 8, 8, 8, 8, 8, 8, 8, 8, 8, 8, 8, 8, 8, 8, 8, 8, 8, 8, 8, 8, 8, 8])).toArray : ByteArray }.size then some ((IntKind.i64.wrap (IntKind.i64.wrap (0 + 8) + IntKind.i64.wrap (↑(bt { data := (([0, 1, 2, 2, 3, 3, 3, 3, 4, 4, 4, 4, 4, 4, 4, 4, 5, 5, 5, 5, 5, 5, 5, 5, 5, 5, 5, 5, 5, 5, 5, 5, 6, 6, 6, 6, 6, 6, 6, 6, 6, 6, 6, 6, 6, 6, 6, 6, 6, 6, 6, 6, 6, 6, 6, 6, 6, 6, 6, 6, 6, 6, 6, 6].append [7, 7, 7, 7, 7, 7, 7, 7, 7, 7, 7, 7, 7, 7, 7, 7, 7, 7, 7, 7, 7, 7, 7, 7, 7, 7, 7, 7, 7, 7, 7, 7, 7, 7, 7, 7, 7, 7, 7, 7, 7, 7, 7, 7, 7, 7, 7, 7, 7, 7, 7, 7, 7, 7, 7, 7, 7, 7, 7, 7, 7, 7, 7, 7]).append ([8, 8, 8, 8, 8, 8, 8, 8, 8, 8, 8, 8, 8, 8, 8, 8, 8, 8, 8, 8, 8, 8, 8, 8, 8, 8, 8, 8, 8, 8, 8, 8, 8, 8, 8, 8, 8, 8, 8, 8, 8, 8, 8, 8, 8, 8, 8, 8, 8, 8, 8, 8, 8, 8, 8, 8, 8, 8, 8, 8, 8, 8, 8, 8].append [8, 8, 8, 8, 8, 8, 8, 8, 8, 8, 8, 8, 8, 8, 8, 8, 8, 8, 8, 8, 8, 8, 8, 8, 8, 8, 8, 8, 8, 8, 8, 8, 8, 8, 8, 8, 8, 8, 8, 8, 8, 8, 8, 8, 8, 8, 8, 8, 8, 8, 8, 8, 8, 8, 8, 8, 8, 8, 8, 8, 8, 8, 8, 8])).toArray : ByteArray } (IntKind.u8.wrap (Int.fdiv x0 (2 ^ min (Int.toNat 8) IntKind.u64.bits)))).toNat : Int)), ()), ()) else none else bif inb (IntKind.u8.wrap x0) { data := (([0, 1, 2, 2, 3, 3, 3, 3, 4, 4, 4, 4, 4, 4, 4, 4, 5, 5, 5, 5, 5, 5, 5, 5, 5, 5, 5, 5, 5, 5, 5, 5, 6, 6, 6, 6, 6, 6, 6, 6, 6, 6, 6, 6, 6, 6, 6, 6, 6, 6, 6, 6, 6, 6, 6, 6, 6, 6, 6, 6, 6, 6, 6, 6].append [7, 7, 7, 7, 7, 7, 7, 7, 7, 7, 7, 7, 7, 7, 7, 7, 7, 7, 7, 7, 7, 7, 7, 7, 7, 7, 7, 7, 7, 7, 7, 7, 7, 7, 7, 7, 7, 7, 7, 7, 7, 7, 7, 7, 7, 7, 7, 7, 7, 7, 7, 7, 7, 7, 7, 7, 7, 7, 7, 7, 7, 7, 7, 7]).append ([8, 8, 8, 8, 8, 8, 8, 8, 8, 8, 8, 8, 8, 8, 8, 8, 8, 8, 8, 8, 8, 8, 8, 8, 8, 8, 8, 8, 8, 8, 8, 8, 8, 8, 8, 8, 8, 8, 8, 8, 8, 8, 8, 8, 8, 8, 8, 8, 8, 8, 8, 8, 8, 8, 8, 8, 8, 8, 8, 8, 8, 8, 8, 8].append [8, 8, 8, 8, 8, 8, 8, 8, 8, 8, 8, 8, 8, 8, 8, 8, 8, 8, 8, 8, 8, 8, 8, 8, 8, 8, 8, 8, 8, 8, 8, 8, 8, 8, 8, 8, 8, 8, 8, 8, 8, 8, 8, 8, 8, 8, 8, 8, 8, 8, 8, 8, 8, 8, 8, 8, 8, 8, 8, 8, 8, 8, 8, 8])).toArray : ByteArray }.size then some ((IntKind.i64.wrap (0 + IntKind.i64.wrap (↑(bt { data := (([0, 1, 2, 2, 3, 3, 3, 3, 4, 4, 4, 4, 4, 4, 4, 4, 5, 5, 5, 5, 5, 5, 5, 5, 5, 5, 5, 5, 5, 5, 5, 5, 6, 6, 6, 6, 6, 6, 6, 6, 6, 6, 6, 6, 6, 6, 6, 6, 6, 6, 6, 6, 6, 6, 6, 6, 6, 6, 6, 6, 6, 6, 6, 6].append [7, 7, 7, 7, 7, 7, 7, 7, 7, 7, 7, 7, 7, 7, 7, 7, 7, 7, 7, 7, 7, 7, 7, 7, 7, 7, 7, 7, 7, 7, 7, 7, 7, 7, 7, 7, 7, 7, 7, 7, 7, 7, 7, 7, 7, 7, 7, 7, 7, 7, 7, 7, 7, 7, 7, 7, 7, 7, 7, 7, 7, 7, 7, 7]).append ([8, 8, 8, 8, 8, 8, 8, 8, 8, 8, 8, 8, 8, 8, 8, 8, 8, 8, 8, 8, 8, 8, 8, 8, 8, 8, 8, 8, 8, 8, 8, 8, 8, 8, 8, 8, 8, 8, 8, 8, 8, 8, 8, 8, 8, 8, 8, 8, 8, 8, 8, 8, 8, 8, 8, 8, 8, 8, 8, 8, 8, 8, 8, 8].append [8, 8, 8, 8, 8, 8, 8, 8, 8, 8, 8, 8, 8, 8, 8, 8, 8, 8, 8, 8, 8, 8, 8, 8, 8, 8, 8, 8, 8, 8, 8, 8, 8, 8, 8, 8, 8, 8, 8, 8, 8, 8, 8, 8, 8, 8, 8, 8, 8, 8, 8, 8, 8, 8, 8, 8, 8, 8, 8, 8, 8, 8, 8, 8])).toArray : ByteArray } (IntKind.u8.wrap x0)).toNat : Int)), ()), ()) else none) := by kernel_rfl
theorem F50_eq (k : Nat) (x0 : Ty.den T69) : F50 k (x0, ()) = (
(F76 k (x0, ())).bind fun y => some ((y.fst.fst, ()), ())) := by kernel_rfl
theorem F72_eq (k : Nat) (x0 : Ty.den T3) (x1 : Ty.den T3) : F72 k (x0, x1, ()) = (
(F46 k (x0, ())).bind fun y => (bif y.fst.fst then F46 k (x1, ()) else some ((Ty.b.dflt, ()), ())).bind fun y_1 => some ((bif bif y.fst.fst then !y_1.fst.fst else false then true else decide (x0 < x1), ()), ())) := by kernel_rfl
theorem E66_0_0_eq (k j : Nat) (x0 : List (Ty.den T3)) (x1 : Ty.den T3) (x2 : Ty.den T3) (x6 : Ty.den T3) (x7 : Ty.den T3) : E66_0_0 k (j + 1) (x0, x1, x2, x6, x7, ()) = (
  bif bif decide (x1 < x7) then inb x7 x0.length else true then bif bif decide (x1 < x7) then inb x7 x0.length else true then bif bif decide (x1 < x7) then inb (IntKind.i64.wrap (x7 - 1)) x0.length else true then bif bif decide (x1 < x7) then inb (IntKind.i64.wrap (x7 - 1)) x0.length else true then (bif decide (x1 < x7) then F72 k (rd (Ty.i IntKind.i64) x0 x7, rd (Ty.i IntKind.i64) x0 (IntKind.i64.wrap (x7 - 1)), ()) else some ((Ty.b.dflt, ()), ())).bind fun y => bif bif decide (x1 < x7) then y.fst.fst else false then bif inb (IntKind.i64.wrap (x7 - 1)) x0.length then bif inb (IntKind.i64.wrap (x7 - 1)) x0.length then bif inb x7 x0.length then bif inb x7 x0.length then bif inb x7 x0.length then bif inb x7 x0.length then bif inb (IntKind.i64.wrap (x7 - 1)) (x0.set (Int.toNat x7) (rd (Ty.i IntKind.i64) x0 (IntKind.i64.wrap (x7 - 1)))).length then bif inb (IntKind.i64.wrap (x7 - 1)) (x0.set (Int.toNat x7) (rd (Ty.i IntKind.i64) x0 (IntKind.i64.wrap (x7 - 1)))).length then E66_0_0 k j ((x0.set (Int.toNat x7) (rd (Ty.i IntKind.i64) x0 (IntKind.i64.wrap (x7 - 1)))).set (IntKind.i64.wrap (x7 - 1)).toNat (rd (Ty.i IntKind.i64) x0 x7), x1, x2, x6, IntKind.i64.wrap (x7 - 1), ()) else none else none else none else none else none else none else none else none else some (Sum.inl (x0, x1, x2, x6, ())) else none else none else none else none) := by kernel_rfl
theorem E66_0_eq (k j : Nat) (x0 : List (Ty.den T3)) (x1 : Ty.den T3) (x2 : Ty.den T3) (x6 : Ty.den T3) : E66_0 k (j + 1) (x0, x1, x2, x6, ()) = (
  bif decide (x6 < x2) then
  (E66_0_0 k k (x0, x1, x2, x6, x6, ())).bind fun y =>
    match y with
    | Sum.inl y => E66_0 k j (y.fst, y.snd.fst, y.snd.snd.fst, IntKind.i64.wrap (y.snd.snd.snd.fst + 1), ())
    | Sum.inr y => nomatch y
  else some (Sum.inl (x0, ()))) := by kernel_rfl
theorem F66_eq (k : Nat) (x0 : List (Ty.den T3)) (x1 : Ty.den T3) (x2 : Ty.den T3) : F66 k (x0, x1, x2, ()) = (
(E66_0 k k (x0, x1, x2, IntKind.i64.wrap (x1 + 1), ())).bind fun y =>
  match y with
  | Sum.inl y => some ((), y.fst, ())
  | Sum.inr y => nomatch y) := by kernel_rfl
theorem E49_0_eq (k j : Nat) (x0 : List (Ty.den T3)) (x1 : Ty.den T3) (x2 : Ty.den T3) (x3 : Ty.den T3) (x8 : Ty.den T4) (x9 : Ty.den T4) : E49_0 k (j + 1) (x0, x1, x2, x3, x8, x9, ()) = (
  bif decide (IntKind.i64.wrap (x2 - x1) ≤ 12) then (F66 k (x0, x1, x2, ())).bind fun y => some (Sum.inl (y.snd.fst, ())) else bif decide (x3 = 0) then none else bif !x8 then none else none) := by kernel_rfl
theorem F49_eq (k : Nat) (x0 : List (Ty.den T3)) (x1 : Ty.den T3) (x2 : Ty.den T3) (x3 : Ty.den T3) : F49 k (x0, x1, x2, x3, ()) = (
(E49_0 k k (x0, x1, x2, x3, true, true, ())).bind fun y =>
  match y with
  | Sum.inl y => some ((), y.fst, ())
  | Sum.inr y => nomatch y) := by kernel_rfl
theorem F36_eq (k : Nat) (x0 : List (Ty.den T3)) : F36 k (x0, ()) = (
(F50 k (IntKind.u64.wrap (↑x0.length : Int), ())).bind fun y => (F49 k (x0, 0, (↑x0.length : Int), y.fst.fst, ())).bind fun y => some ((), y.snd.fst, ())) := by kernel_rfl
theorem E19_0_0_eq (k j : Nat) (x5 : Ty.den T40) (x6 : List (Ty.den T3)) (x7 : List (Ty.den T3)) (x27 : Ty.den T40) (x28 : Ty.den T3) (x29 : Ty.den T3) : E19_0_0 k (j + 1) (x5, x6, x7, x27, x28, x29, ()) = (
  bif decide (x29 < x28) then bif inb x29 (List.length x27) then bif inb 0 x7.length then bif inb 0 x7.length then (F35 k (rd (Ty.i IntKind.i64).l x27 x29, rd (Ty.i IntKind.i64) x7 0, ())).bind fun y => (bif y.fst.fst then F35 k (x6, x29, ()) else some ((Ty.b.dflt, ()), ())).bind fun y_1 => bif bif y.fst.fst then !y_1.fst.fst else false then bif decide ((x6.length + [x29].length) * (7 + 1) ≤ 140737488355328) then bif decide ((x7.length + [x29].length) * (7 + 1) ≤ 140737488355328) then E19_0_0 k j (x5, x6 ++ [x29], x7 ++ [x29], x27, x28, IntKind.i64.wrap (x29 + 1), ()) else none else none else E19_0_0 k j (x5, x6, x7, x27, x28, IntKind.i64.wrap (x29 + 1), ()) else none else none else none else some (Sum.inl (x5, x6, x7, ()))) := by kernel_rfl
theorem E19_0_eq (k j : Nat) (x5 : Ty.den T40) (x6 : List (Ty.den T3)) (x7 : List (Ty.den T3)) : E19_0 k (j + 1) (x5, x6, x7, ()) = (
  bif decide (0 < (↑x7.length : Int)) then
  (E19_0_0 k k (x5, x6, x7, x5, (↑(List.length x5) : Int), 0, ())).bind fun y =>
    match y with
    | Sum.inl y => bif inr 1 (↑(List.length y.snd.snd.fst) : Int) (List.length y.snd.snd.fst) then E19_0 k j (y.fst, y.snd.fst, List.drop (Int.toNat 1) y.snd.snd.fst, ()) else none
    | Sum.inr y => nomatch y
  else some (Sum.inl (x6, ()))) := by kernel_rfl
theorem F19_eq (k : Nat) (x0 : Ty.den T22) (x1 : Ty.den T3) : F19 k (x0, x1, ()) = (
(F24 k (x0, ())).bind fun y =>
  bif bif decide (x1 < 0) then true else decide ((↑(List.length y.fst.fst) : Int) ≤ x1) then some (([], ()), ())
  else
    (E19_0 k k (y.fst.fst, [], [x1], ())).bind fun y =>
      match y with
      | Sum.inl y => (F36 k (y.fst, ())).bind fun y => some ((y.snd.fst, ()), ())
      | Sum.inr y => nomatch y) := by kernel_rfl
theorem F8_eq (k : Nat) : F8 k (()) = (
(F22 k ({ data := #[112] : ByteArray }, { data := #[115, 101, 113, 32, 114, 32, 120, 32, 119, 105, 116, 104, 105, 110, 32, 53] : ByteArray }, ())).bind fun y => (F22 k ({ data := #[113] : ByteArray }, { data := #[115, 101, 113, 32, 97, 32, 120, 32, 116, 104, 101, 110, 32, 112, 32, 121, 32, 119, 105, 116, 104, 105, 110, 32, 53] : ByteArray }, ())).bind fun y_1 => (F22 k ({ data := #[114] : ByteArray }, { data := #[115, 101, 113, 32, 97, 32, 120, 32, 119, 105, 116, 104, 105, 110, 32, 53] : ByteArray }, ())).bind fun y_2 => (F10 k ([y.fst.fst, y_1.fst.fst, y_2.fst.fst], ())).bind fun y_3 => (F22 k ({ data := #[112] : ByteArray }, { data := #[115, 101, 113, 32, 113, 32, 120, 32, 119, 105, 116, 104, 105, 110, 32, 53] : ByteArray }, ())).bind fun y_4 => (F22 k ({ data := #[113] : ByteArray }, { data := #[115, 101, 113, 32, 112, 32, 120, 32, 119, 105, 116, 104, 105, 110, 32, 53] : ByteArray }, ())).bind fun y_5 => (F10 k ([y_4.fst.fst, y_5.fst.fst], ())).bind fun y_6 => (F10 k ([({ data := #[112] : ByteArray }, [])], ())).bind fun y_7 => bif decide (y_3.fst.snd.fst = 0) then (bif true then F14 k (y_3.fst.fst, [2, 3, 1], ()) else some ((Ty.b.dflt, ()), ())).bind fun y_8 => bif bif bif bif true then y_8.fst.fst else false then decide (y_6.fst.snd.fst = 161) else false then decide (y_7.fst.snd.fst = 1) else false then (F15 k ([y.fst.fst, y_1.fst.fst, y_2.fst.fst], ())).bind fun y_9 => (bif true then F14 k (y_9.fst.fst, [2, 0, 1], ()) else some ((Ty.b.dflt, ()), ())).bind fun y_10 => bif bif true then y_10.fst.fst else false then (F17 k ([y.fst.fst, y_1.fst.fst, y_2.fst.fst], 1, ())).bind fun y_11 => (bif true then F14 k (y_11.fst.fst, [0], ()) else some ((Ty.b.dflt, ()), ())).bind fun y_12 => bif bif true then y_12.fst.fst else false then (F19 k ([y.fst.fst, y_1.fst.fst, y_2.fst.fst], 2, ())).bind fun y_13 => (bif true then F14 k (y_13.fst.fst, [0, 1], ()) else some ((Ty.b.dflt, ()), ())).bind fun y_14 => (bif bif true then y_14.fst.fst else false then F12 k ([y.fst.fst, y_1.fst.fst, y_2.fst.fst], ()) else some ((Ty.b.dflt, ()), ())).bind fun y => some ((bif bif true then y_14.fst.fst else false then y.fst.fst else false, ()), ()) else some ((bif false then Ty.b.dflt else false, ()), ()) else some ((bif false then Ty.b.dflt else false, ()), ()) else some ((bif false then Ty.b.dflt else false, ()), ()) else some ((bif false then Ty.b.dflt else false, ()), ())) := by kernel_rfl
theorem E54_0_eq (k j : Nat) (s54 : shsDen I54 → Option (shsDen O54 × shsDen (shsUpd I54))) (x1 : Ty.den T3) (x2f0 : Ty.den T84) (x5 : Ty.den T3) (x6 : Ty.den T3) : E54_0 k s54 (j + 1) (x1, (x2f0, ()), x5, x6, ()) = (
  bif bif decide (x6 < (↑(Ex.kids x2f0).length : Int)) then decide (x5 < x1) else false then bif inb x6 (Ex.kids x2f0).length then (s54 (Ex.mk (Ex.kind (rd Ty.ex (Ex.kids x2f0) x6)) (Ex.vk (rd Ty.ex (Ex.kids x2f0) x6)) (Ex.vn (rd Ty.ex (Ex.kids x2f0) x6)) (Ex.vs (rd Ty.ex (Ex.kids x2f0) x6)) (Ex.var (rd Ty.ex (Ex.kids x2f0) x6)) (Ex.fld (rd Ty.ex (Ex.kids x2f0) x6)) (Ex.kids (rd Ty.ex (Ex.kids x2f0) x6)), IntKind.i64.wrap (x1 - x5), ())).bind fun y => E54_0 k s54 j (x1, (Ex.mk (Ex.kind x2f0) (Ex.vk x2f0) (Ex.vn x2f0) (Ex.vs x2f0) (Ex.var x2f0) (Ex.fld x2f0) (Ex.kids x2f0), ()), IntKind.i64.wrap (x5 + y.fst.fst), IntKind.i64.wrap (x6 + 1), ()) else none else some (Sum.inl (x5, ()))) := by kernel_rfl
theorem G54_eq (k : Nat) (s54 : shsDen I54 → Option (shsDen O54 × shsDen (shsUpd I54))) (x0 : Ty.den T84) (x1 : Ty.den T3) : G54 k s54 (x0, x1, ()) = (
(E54_0 k s54 k (x1, (Ex.mk (Ex.kind x0) (Ex.vk x0) (Ex.vn x0) (Ex.vs x0) (Ex.var x0) (Ex.fld x0) (Ex.kids x0), ()), IntKind.i64.wrap (IntKind.i64.wrap (IntKind.i64.wrap (1 + bif false then bif decide ((↑(Ex.var x0).size : Int) < 3000) then 3000 else (↑(Ex.var x0).size : Int) else bif decide (3000 < (↑(Ex.var x0).size : Int)) then 3000 else (↑(Ex.var x0).size : Int)) + bif false then bif decide ((↑(Ex.fld x0).size : Int) < 3000) then 3000 else (↑(Ex.fld x0).size : Int) else bif decide (3000 < (↑(Ex.fld x0).size : Int)) then 3000 else (↑(Ex.fld x0).size : Int)) + bif false then bif decide ((↑(Ex.vs x0).size : Int) < 3000) then 3000 else (↑(Ex.vs x0).size : Int) else bif decide (3000 < (↑(Ex.vs x0).size : Int)) then 3000 else (↑(Ex.vs x0).size : Int)), 0, ())).bind fun y =>
  match y with
  | Sum.inl y => some ((y.fst, ()), ())
  | Sum.inr y => nomatch y) := by kernel_rfl
theorem E38_0_0_eq (k j : Nat) (x1f0 : Ty.den T53) (x3 : Ty.den T3) (x4 : Ty.den T3) (x5 : Ty.den T3) : E38_0_0 k (j + 1) ((x1f0, ()), x3, x4, x5, ()) = (
  bif inb x4 (List.length x1f0.fst) then bif bif decide (x5 < (↑(List.length (rd (Ty.b.p (Ty.s.l.p (Ty.s.p (Ty.i IntKind.i64)))) x1f0.fst x4).snd.fst) : Int)) then decide (x3 < 3000) else false then bif inb x4 (List.length x1f0.fst) then bif inb x5 (List.length (rd (Ty.b.p (Ty.s.l.p (Ty.s.p (Ty.i IntKind.i64)))) x1f0.fst x4).snd.fst) then E38_0_0 k j ((x1f0, ()), IntKind.i64.wrap (x3 + bif false then bif decide ((↑(ByteArray.size (rd Ty.s (rd (Ty.b.p (Ty.s.l.p (Ty.s.p (Ty.i IntKind.i64)))) x1f0.fst x4).snd.fst x5)) : Int) < 3000) then 3000 else (↑(ByteArray.size (rd Ty.s (rd (Ty.b.p (Ty.s.l.p (Ty.s.p (Ty.i IntKind.i64)))) x1f0.fst x4).snd.fst x5)) : Int) else bif decide (3000 < (↑(ByteArray.size (rd Ty.s (rd (Ty.b.p (Ty.s.l.p (Ty.s.p (Ty.i IntKind.i64)))) x1f0.fst x4).snd.fst x5)) : Int)) then 3000 else (↑(ByteArray.size (rd Ty.s (rd (Ty.b.p (Ty.s.l.p (Ty.s.p (Ty.i IntKind.i64)))) x1f0.fst x4).snd.fst x5)) : Int)), x4, IntKind.i64.wrap (x5 + 1), ()) else none else none else some (Sum.inl ((x1f0, ()), x3, x4, ())) else none) := by kernel_rfl
theorem E38_0_eq (k j : Nat) (x1f0 : Ty.den T53) (x3 : Ty.den T3) (x4 : Ty.den T3) : E38_0 k (j + 1) ((x1f0, ()), x3, x4, ()) = (
  bif bif decide (x4 < (↑(List.length x1f0.fst) : Int)) then decide (x3 < 3000) else false then
  bif inb x4 (List.length x1f0.fst) then
    bif inb x4 (List.length x1f0.fst) then
      (E38_0_0 k k ((x1f0, ()), IntKind.i64.wrap (IntKind.i64.wrap (x3 + bif false then bif decide ((↑(ByteArray.size (rd (Ty.b.p (Ty.s.l.p (Ty.s.p (Ty.i IntKind.i64)))) x1f0.fst x4).snd.snd.fst) : Int) < 3000) then 3000 else (↑(ByteArray.size (rd (Ty.b.p (Ty.s.l.p (Ty.s.p (Ty.i IntKind.i64)))) x1f0.fst x4).snd.snd.fst) : Int) else bif decide (3000 < (↑(ByteArray.size (rd (Ty.b.p (Ty.s.l.p (Ty.s.p (Ty.i IntKind.i64)))) x1f0.fst x4).snd.snd.fst) : Int)) then 3000 else (↑(ByteArray.size (rd (Ty.b.p (Ty.s.l.p (Ty.s.p (Ty.i IntKind.i64)))) x1f0.fst x4).snd.snd.fst) : Int)) + (↑(List.length (rd (Ty.b.p (Ty.s.l.p (Ty.s.p (Ty.i IntKind.i64)))) x1f0.fst x4).snd.fst) : Int)), x4, 0, ())).bind fun y =>
        match y with
        | Sum.inl y => E38_0 k j ((y.fst.fst, ()), y.snd.fst, IntKind.i64.wrap (y.snd.snd.fst + 1), ())
        | Sum.inr y => nomatch y
    else none
  else none
  else some (Sum.inl ((x1f0, ()), x3, ()))) := by kernel_rfl
theorem E38_1_eq (k j : Nat) (x1f0 : Ty.den T53) (x3 : Ty.den T3) (x6 : Ty.den T3) : E38_1 k (j + 1) ((x1f0, ()), x3, x6, ()) = (
  bif bif decide (x6 < (↑(List.length x1f0.snd.fst) : Int)) then decide (x3 < 3000) else false then bif inb x6 (List.length x1f0.snd.fst) then (F54 k (Ex.mk (Ex.kind (rd ((Ty.i IntKind.i64).p (Ty.ex.p Ty.ex)) x1f0.snd.fst x6).snd.fst) (Ex.vk (rd ((Ty.i IntKind.i64).p (Ty.ex.p Ty.ex)) x1f0.snd.fst x6).snd.fst) (Ex.vn (rd ((Ty.i IntKind.i64).p (Ty.ex.p Ty.ex)) x1f0.snd.fst x6).snd.fst) (Ex.vs (rd ((Ty.i IntKind.i64).p (Ty.ex.p Ty.ex)) x1f0.snd.fst x6).snd.fst) (Ex.var (rd ((Ty.i IntKind.i64).p (Ty.ex.p Ty.ex)) x1f0.snd.fst x6).snd.fst) (Ex.fld (rd ((Ty.i IntKind.i64).p (Ty.ex.p Ty.ex)) x1f0.snd.fst x6).snd.fst) (Ex.kids (rd ((Ty.i IntKind.i64).p (Ty.ex.p Ty.ex)) x1f0.snd.fst x6).snd.fst), 3000, ())).bind fun y => bif inb x6 (List.length x1f0.snd.fst) then (F54 k (Ex.mk (Ex.kind (rd ((Ty.i IntKind.i64).p (Ty.ex.p Ty.ex)) x1f0.snd.fst x6).snd.snd) (Ex.vk (rd ((Ty.i IntKind.i64).p (Ty.ex.p Ty.ex)) x1f0.snd.fst x6).snd.snd) (Ex.vn (rd ((Ty.i IntKind.i64).p (Ty.ex.p Ty.ex)) x1f0.snd.fst x6).snd.snd) (Ex.vs (rd ((Ty.i IntKind.i64).p (Ty.ex.p Ty.ex)) x1f0.snd.fst x6).snd.snd) (Ex.var (rd ((Ty.i IntKind.i64).p (Ty.ex.p Ty.ex)) x1f0.snd.fst x6).snd.snd) (Ex.fld (rd ((Ty.i IntKind.i64).p (Ty.ex.p Ty.ex)) x1f0.snd.fst x6).snd.snd) (Ex.kids (rd ((Ty.i IntKind.i64).p (Ty.ex.p Ty.ex)) x1f0.snd.fst x6).snd.snd), 3000, ())).bind fun y_1 => E38_1 k j ((x1f0, ()), IntKind.i64.wrap (IntKind.i64.wrap (x3 + y.fst.fst) + y_1.fst.fst), IntKind.i64.wrap (x6 + 1), ()) else none else none else some (Sum.inl (x3, ()))) := by kernel_rfl
theorem F38_eq (k : Nat) (x0 : Ty.den T53) : F38 k (x0, ()) = (
(E38_0 k k ((x0, ()), IntKind.i64.wrap (IntKind.i64.wrap ((↑(List.length x0.fst) : Int) + (↑(List.length x0.snd.fst) : Int)) + bif false then bif decide ((↑(ByteArray.size x0.snd.snd.snd.fst) : Int) < 3000) then 3000 else (↑(ByteArray.size x0.snd.snd.snd.fst) : Int) else bif decide (3000 < (↑(ByteArray.size x0.snd.snd.snd.fst) : Int)) then 3000 else (↑(ByteArray.size x0.snd.snd.snd.fst) : Int)), 0, ())).bind fun y =>
  match y with
  | Sum.inl y =>
    (E38_1 k k ((y.fst.fst, ()), y.snd.fst, 0, ())).bind fun y =>
      match y with
      | Sum.inl y => some ((decide (3000 ≤ y.fst), ()), ())
      | Sum.inr y => nomatch y
  | Sum.inr y => nomatch y) := by kernel_rfl
theorem E23_0_eq (k j : Nat) (x0 : Ty.den T34) (x3 : Ty.den T3) : E23_0 k (j + 1) (x0, x3, ()) = (
  bif bif decide (x3 < (↑(List.length x0) : Int)) then decide (x3 < 20) else false then bif inb x3 (List.length x0) then (F38 k ((rd ((Ty.i IntKind.i64).p (Ty.b.p ((Ty.b.p (Ty.s.l.p (Ty.s.p (Ty.i IntKind.i64)))).l.p (((Ty.i IntKind.i64).p (Ty.ex.p Ty.ex)).l.p ((Ty.i IntKind.i64).p (Ty.s.p (Ty.i IntKind.i64))))))) x0 x3).snd.snd, ())).bind fun y => bif y.fst.fst then some (Sum.inr (Sum.inl (true, ()))) else E23_0 k j (x0, IntKind.i64.wrap (x3 + 1), ()) else none else some (Sum.inl (x0, ()))) := by kernel_rfl
theorem F23_eq (k : Nat) (x0 : Ty.den T34) : F23 k (x0, ()) = (
(E23_0 k k (x0, 0, ())).bind fun y =>
  match y with
  | Sum.inl y => some ((decide (12 < (↑(List.length y.fst) : Int)), ()), ())
  | Sum.inr y =>
    match y with
    | Sum.inl y => some ((y.fst, ()), ())
    | Sum.inr y => nomatch y) := by kernel_rfl
theorem E9_0_eq (k j : Nat) (x0 : Ty.den T22) (x3 : Ty.den T3) : E9_0 k (j + 1) (x0, x3, ()) = (
  bif bif decide (x3 < (↑(List.length x0) : Int)) then decide (x3 < 12) else false then bif inb x3 (List.length x0) then (F23 k ((rd (Ty.s.p ((Ty.i IntKind.i64).p (Ty.b.p ((Ty.b.p (Ty.s.l.p (Ty.s.p (Ty.i IntKind.i64)))).l.p (((Ty.i IntKind.i64).p (Ty.ex.p Ty.ex)).l.p ((Ty.i IntKind.i64).p (Ty.s.p (Ty.i IntKind.i64))))))).l) x0 x3).snd, ())).bind fun y => bif bif !y.fst.fst then inb x3 (List.length x0) else true then bif bif y.fst.fst then true else decide (1000 < (↑(ByteArray.size (rd (Ty.s.p ((Ty.i IntKind.i64).p (Ty.b.p ((Ty.b.p (Ty.s.l.p (Ty.s.p (Ty.i IntKind.i64)))).l.p (((Ty.i IntKind.i64).p (Ty.ex.p Ty.ex)).l.p ((Ty.i IntKind.i64).p (Ty.s.p (Ty.i IntKind.i64))))))).l) x0 x3).fst) : Int)) then some (Sum.inr (Sum.inl (true, ()))) else E9_0 k j (x0, IntKind.i64.wrap (x3 + 1), ()) else none else none else some (Sum.inl (x0, ()))) := by kernel_rfl
theorem F9_eq (k : Nat) (x0 : Ty.den T22) : F9 k (x0, ()) = (
(E9_0 k k (x0, 0, ())).bind fun y =>
  match y with
  | Sum.inl y => some ((decide (10 < (↑(List.length y.fst) : Int)), ()), ())
  | Sum.inr y =>
    match y with
    | Sum.inl y => some ((y.fst, ()), ())
    | Sum.inr y => nomatch y) := by kernel_rfl
theorem E100_0_eq (k j : Nat) (x2f0 : Ty.den T66) (x3f0 : Ty.den T66) (x5 : Ty.den T3) : E100_0 k (j + 1) ((x2f0, ()), (x3f0, ()), x5, ()) = (
  bif decide (x5 < (↑(List.length x2f0.snd.fst) : Int)) then bif inb x5 (List.length x2f0.snd.fst) then bif inb x5 (List.length x3f0.snd.fst) then bif !decide (rd Ty.s x2f0.snd.fst x5 = rd Ty.s x3f0.snd.fst x5) then some (Sum.inr (Sum.inl (false, ()))) else E100_0 k j ((x2f0, ()), (x3f0, ()), IntKind.i64.wrap (x5 + 1), ()) else none else none else some (Sum.inl ())) := by kernel_rfl
theorem F100_eq (k : Nat) (x0 : Ty.den T66) (x1 : Ty.den T66) : F100 k (x0, x1, ()) = (
  bif bif bif bif !decide (x0.fst = x1.fst) then true else !decide (x0.snd.snd.fst = x1.snd.snd.fst) then true else !decide (x0.snd.snd.snd = x1.snd.snd.snd) then true else !decide ((↑(List.length x0.snd.fst) : Int) = (↑(List.length x1.snd.fst) : Int)) then some ((false, ()), ())
  else
  (E100_0 k k ((x0, ()), (x1, ()), 0, ())).bind fun y =>
    match y with
    | Sum.inl y => some ((true, ()), ())
    | Sum.inr y =>
      match y with
      | Sum.inl y => some ((y.fst, ()), ())
      | Sum.inr y => nomatch y) := by kernel_rfl
theorem E119_0_eq (k j : Nat) (s119 : shsDen I119 → Option (shsDen O119 × shsDen (shsUpd I119))) (x2f0 : Ty.den T84) (x3f0 : Ty.den T84) (x5 : Ty.den T3) : E119_0 k s119 (j + 1) ((x2f0, ()), (x3f0, ()), x5, ()) = (
  bif decide (x5 < (↑(Ex.kids x2f0).length : Int)) then bif inb x5 (Ex.kids x2f0).length then bif inb x5 (Ex.kids x3f0).length then (s119 (Ex.mk (Ex.kind (rd Ty.ex (Ex.kids x2f0) x5)) (Ex.vk (rd Ty.ex (Ex.kids x2f0) x5)) (Ex.vn (rd Ty.ex (Ex.kids x2f0) x5)) (Ex.vs (rd Ty.ex (Ex.kids x2f0) x5)) (Ex.var (rd Ty.ex (Ex.kids x2f0) x5)) (Ex.fld (rd Ty.ex (Ex.kids x2f0) x5)) (Ex.kids (rd Ty.ex (Ex.kids x2f0) x5)), Ex.mk (Ex.kind (rd Ty.ex (Ex.kids x3f0) x5)) (Ex.vk (rd Ty.ex (Ex.kids x3f0) x5)) (Ex.vn (rd Ty.ex (Ex.kids x3f0) x5)) (Ex.vs (rd Ty.ex (Ex.kids x3f0) x5)) (Ex.var (rd Ty.ex (Ex.kids x3f0) x5)) (Ex.fld (rd Ty.ex (Ex.kids x3f0) x5)) (Ex.kids (rd Ty.ex (Ex.kids x3f0) x5)), ())).bind fun y => bif !y.fst.fst then some (Sum.inr (Sum.inl (false, ()))) else E119_0 k s119 j ((Ex.mk (Ex.kind x2f0) (Ex.vk x2f0) (Ex.vn x2f0) (Ex.vs x2f0) (Ex.var x2f0) (Ex.fld x2f0) (Ex.kids x2f0), ()), (Ex.mk (Ex.kind x3f0) (Ex.vk x3f0) (Ex.vn x3f0) (Ex.vs x3f0) (Ex.var x3f0) (Ex.fld x3f0) (Ex.kids x3f0), ()), IntKind.i64.wrap (x5 + 1), ()) else none else none else some (Sum.inl ())) := by kernel_rfl
theorem G119_eq (k : Nat) (s119 : shsDen I119 → Option (shsDen O119 × shsDen (shsUpd I119))) (x0 : Ty.den T84) (x1 : Ty.den T84) : G119 k s119 (x0, x1, ()) = (
  bif bif bif bif bif !decide (Ex.kind x0 = Ex.kind x1) then true else !(decide (Ex.vk x0 = Ex.vk x1) && (decide (Ex.vn x0 = Ex.vn x1) && (decide (Ex.vs x0 = Ex.vs x1) && true))) then true else !decide (Ex.var x0 = Ex.var x1) then true else !decide (Ex.fld x0 = Ex.fld x1) then true else !decide ((↑(Ex.kids x0).length : Int) = (↑(Ex.kids x1).length : Int)) then some ((false, ()), ())
  else
  (E119_0 k s119 k ((Ex.mk (Ex.kind x0) (Ex.vk x0) (Ex.vn x0) (Ex.vs x0) (Ex.var x0) (Ex.fld x0) (Ex.kids x0), ()), (Ex.mk (Ex.kind x1) (Ex.vk x1) (Ex.vn x1) (Ex.vs x1) (Ex.var x1) (Ex.fld x1) (Ex.kids x1), ()), 0, ())).bind fun y =>
    match y with
    | Sum.inl y => some ((true, ()), ())
    | Sum.inr y =>
      match y with
      | Sum.inl y => some ((y.fst, ()), ())
      | Sum.inr y => nomatch y) := by kernel_rfl
theorem F101_eq (k : Nat) (x0 : Ty.den T86) (x1 : Ty.den T86) : F101 k (x0, x1, ()) = (
(bif decide (x0.fst = x1.fst) then F119 k (Ex.mk (Ex.kind x0.snd.fst) (Ex.vk x0.snd.fst) (Ex.vn x0.snd.fst) (Ex.vs x0.snd.fst) (Ex.var x0.snd.fst) (Ex.fld x0.snd.fst) (Ex.kids x0.snd.fst), Ex.mk (Ex.kind x1.snd.fst) (Ex.vk x1.snd.fst) (Ex.vn x1.snd.fst) (Ex.vs x1.snd.fst) (Ex.var x1.snd.fst) (Ex.fld x1.snd.fst) (Ex.kids x1.snd.fst), ()) else some ((Ty.b.dflt, ()), ())).bind fun y => (bif bif decide (x0.fst = x1.fst) then y.fst.fst else false then F119 k (Ex.mk (Ex.kind x0.snd.snd) (Ex.vk x0.snd.snd) (Ex.vn x0.snd.snd) (Ex.vs x0.snd.snd) (Ex.var x0.snd.snd) (Ex.fld x0.snd.snd) (Ex.kids x0.snd.snd), Ex.mk (Ex.kind x1.snd.snd) (Ex.vk x1.snd.snd) (Ex.vn x1.snd.snd) (Ex.vs x1.snd.snd) (Ex.var x1.snd.snd) (Ex.fld x1.snd.snd) (Ex.kids x1.snd.snd), ()) else some ((Ty.b.dflt, ()), ())).bind fun y_1 => some ((bif bif decide (x0.fst = x1.fst) then y.fst.fst else false then y_1.fst.fst else false, ()), ())) := by kernel_rfl
theorem E63_0_eq (k j : Nat) (x2f0 : Ty.den T53) (x3f0 : Ty.den T53) (x5 : Ty.den T3) : E63_0 k (j + 1) ((x2f0, ()), (x3f0, ()), x5, ()) = (
  bif decide (x5 < (↑(List.length x2f0.fst) : Int)) then bif inb x5 (List.length x2f0.fst) then bif inb x5 (List.length x3f0.fst) then (F100 k (rd (Ty.b.p (Ty.s.l.p (Ty.s.p (Ty.i IntKind.i64)))) x2f0.fst x5, rd (Ty.b.p (Ty.s.l.p (Ty.s.p (Ty.i IntKind.i64)))) x3f0.fst x5, ())).bind fun y => bif !y.fst.fst then some (Sum.inr (Sum.inl (false, ()))) else E63_0 k j ((x2f0, ()), (x3f0, ()), IntKind.i64.wrap (x5 + 1), ()) else none else none else some (Sum.inl ((x2f0, ()), (x3f0, ()), ()))) := by kernel_rfl
theorem E63_1_eq (k j : Nat) (x2f0 : Ty.den T53) (x3f0 : Ty.den T53) (x6 : Ty.den T3) : E63_1 k (j + 1) ((x2f0, ()), (x3f0, ()), x6, ()) = (
  bif decide (x6 < (↑(List.length x2f0.snd.fst) : Int)) then bif inb x6 (List.length x2f0.snd.fst) then bif inb x6 (List.length x3f0.snd.fst) then (F101 k (((rd ((Ty.i IntKind.i64).p (Ty.ex.p Ty.ex)) x2f0.snd.fst x6).fst, Ex.mk (Ex.kind (rd ((Ty.i IntKind.i64).p (Ty.ex.p Ty.ex)) x2f0.snd.fst x6).snd.fst) (Ex.vk (rd ((Ty.i IntKind.i64).p (Ty.ex.p Ty.ex)) x2f0.snd.fst x6).snd.fst) (Ex.vn (rd ((Ty.i IntKind.i64).p (Ty.ex.p Ty.ex)) x2f0.snd.fst x6).snd.fst) (Ex.vs (rd ((Ty.i IntKind.i64).p (Ty.ex.p Ty.ex)) x2f0.snd.fst x6).snd.fst) (Ex.var (rd ((Ty.i IntKind.i64).p (Ty.ex.p Ty.ex)) x2f0.snd.fst x6).snd.fst) (Ex.fld (rd ((Ty.i IntKind.i64).p (Ty.ex.p Ty.ex)) x2f0.snd.fst x6).snd.fst) (Ex.kids (rd ((Ty.i IntKind.i64).p (Ty.ex.p Ty.ex)) x2f0.snd.fst x6).snd.fst), Ex.mk (Ex.kind (rd ((Ty.i IntKind.i64).p (Ty.ex.p Ty.ex)) x2f0.snd.fst x6).snd.snd) (Ex.vk (rd ((Ty.i IntKind.i64).p (Ty.ex.p Ty.ex)) x2f0.snd.fst x6).snd.snd) (Ex.vn (rd ((Ty.i IntKind.i64).p (Ty.ex.p Ty.ex)) x2f0.snd.fst x6).snd.snd) (Ex.vs (rd ((Ty.i IntKind.i64).p (Ty.ex.p Ty.ex)) x2f0.snd.fst x6).snd.snd) (Ex.var (rd ((Ty.i IntKind.i64).p (Ty.ex.p Ty.ex)) x2f0.snd.fst x6).snd.snd) (Ex.fld (rd ((Ty.i IntKind.i64).p (Ty.ex.p Ty.ex)) x2f0.snd.fst x6).snd.snd) (Ex.kids (rd ((Ty.i IntKind.i64).p (Ty.ex.p Ty.ex)) x2f0.snd.fst x6).snd.snd)), ((rd ((Ty.i IntKind.i64).p (Ty.ex.p Ty.ex)) x3f0.snd.fst x6).fst, Ex.mk (Ex.kind (rd ((Ty.i IntKind.i64).p (Ty.ex.p Ty.ex)) x3f0.snd.fst x6).snd.fst) (Ex.vk (rd ((Ty.i IntKind.i64).p (Ty.ex.p Ty.ex)) x3f0.snd.fst x6).snd.fst) (Ex.vn (rd ((Ty.i IntKind.i64).p (Ty.ex.p Ty.ex)) x3f0.snd.fst x6).snd.fst) (Ex.vs (rd ((Ty.i IntKind.i64).p (Ty.ex.p Ty.ex)) x3f0.snd.fst x6).snd.fst) (Ex.var (rd ((Ty.i IntKind.i64).p (Ty.ex.p Ty.ex)) x3f0.snd.fst x6).snd.fst) (Ex.fld (rd ((Ty.i IntKind.i64).p (Ty.ex.p Ty.ex)) x3f0.snd.fst x6).snd.fst) (Ex.kids (rd ((Ty.i IntKind.i64).p (Ty.ex.p Ty.ex)) x3f0.snd.fst x6).snd.fst), Ex.mk (Ex.kind (rd ((Ty.i IntKind.i64).p (Ty.ex.p Ty.ex)) x3f0.snd.fst x6).snd.snd) (Ex.vk (rd ((Ty.i IntKind.i64).p (Ty.ex.p Ty.ex)) x3f0.snd.fst x6).snd.snd) (Ex.vn (rd ((Ty.i IntKind.i64).p (Ty.ex.p Ty.ex)) x3f0.snd.fst x6).snd.snd) (Ex.vs (rd ((Ty.i IntKind.i64).p (Ty.ex.p Ty.ex)) x3f0.snd.fst x6).snd.snd) (Ex.var (rd ((Ty.i IntKind.i64).p (Ty.ex.p Ty.ex)) x3f0.snd.fst x6).snd.snd) (Ex.fld (rd ((Ty.i IntKind.i64).p (Ty.ex.p Ty.ex)) x3f0.snd.fst x6).snd.snd) (Ex.kids (rd ((Ty.i IntKind.i64).p (Ty.ex.p Ty.ex)) x3f0.snd.fst x6).snd.snd)), ())).bind fun y => bif !y.fst.fst then some (Sum.inr (Sum.inl (false, ()))) else E63_1 k j ((x2f0, ()), (x3f0, ()), IntKind.i64.wrap (x6 + 1), ()) else none else none else some (Sum.inl ())) := by kernel_rfl
theorem F63_eq (k : Nat) (x0 : Ty.den T53) (x1 : Ty.den T53) : F63 k (x0, x1, ()) = (
  bif bif bif bif bif !decide ((↑(List.length x0.fst) : Int) = (↑(List.length x1.fst) : Int)) then true else !decide ((↑(List.length x0.snd.fst) : Int) = (↑(List.length x1.snd.fst) : Int)) then true else !decide (x0.snd.snd.fst = x1.snd.snd.fst) then true else !decide (x0.snd.snd.snd.fst = x1.snd.snd.snd.fst) then true else !decide (x0.snd.snd.snd.snd = x1.snd.snd.snd.snd) then some ((false, ()), ())
  else
  (E63_0 k k ((x0, ()), (x1, ()), 0, ())).bind fun y =>
    match y with
    | Sum.inl y =>
      (E63_1 k k ((y.fst.fst, ()), (y.snd.fst.fst, ()), 0, ())).bind fun y =>
        match y with
        | Sum.inl y => some ((true, ()), ())
        | Sum.inr y =>
          match y with
          | Sum.inl y => some ((y.fst, ()), ())
          | Sum.inr y => nomatch y
    | Sum.inr y =>
      match y with
      | Sum.inl y => some ((y.fst, ()), ())
      | Sum.inr y => nomatch y) := by kernel_rfl
theorem F44_eq (k : Nat) (x0 : Ty.den T57) : F44 k (x0, ()) = (
  bif bif decide (x0.fst < 0) then true else decide (1099511627776 < x0.fst) then some ((false, ()), ()) else bif x0.snd.fst then (F63 k (x0.snd.snd, ([], [], 0, { data := #[] : ByteArray }, 0), ())).bind fun y => some ((y.fst.fst, ()), ()) else (F53 k (x0.snd.snd, ())).bind fun y => some ((y.fst.fst, ()), ())) := by kernel_rfl
theorem E30_0_eq (k j : Nat) (x0 : Ty.den T34) (x3 : Ty.den T3) : E30_0 k (j + 1) (x0, x3, ()) = (
  bif decide (x3 < (↑(List.length x0) : Int)) then bif inb x3 (List.length x0) then (F44 k (rd ((Ty.i IntKind.i64).p (Ty.b.p ((Ty.b.p (Ty.s.l.p (Ty.s.p (Ty.i IntKind.i64)))).l.p (((Ty.i IntKind.i64).p (Ty.ex.p Ty.ex)).l.p ((Ty.i IntKind.i64).p (Ty.s.p (Ty.i IntKind.i64))))))) x0 x3, ())).bind fun y => bif bif !!y.fst.fst && decide (x3 = 0) then inb x3 (List.length x0) else true then bif bif (!bif !y.fst.fst then true else bif decide (x3 = 0) then (rd ((Ty.i IntKind.i64).p (Ty.b.p ((Ty.b.p (Ty.s.l.p (Ty.s.p (Ty.i IntKind.i64)))).l.p (((Ty.i IntKind.i64).p (Ty.ex.p Ty.ex)).l.p ((Ty.i IntKind.i64).p (Ty.s.p (Ty.i IntKind.i64))))))) x0 x3).snd.fst else false) && decide (0 < x3) then inb (IntKind.i64.wrap (x3 - 1)) (List.length x0) else true then bif bif (!bif !y.fst.fst then true else bif decide (x3 = 0) then (rd ((Ty.i IntKind.i64).p (Ty.b.p ((Ty.b.p (Ty.s.l.p (Ty.s.p (Ty.i IntKind.i64)))).l.p (((Ty.i IntKind.i64).p (Ty.ex.p Ty.ex)).l.p ((Ty.i IntKind.i64).p (Ty.s.p (Ty.i IntKind.i64))))))) x0 x3).snd.fst else false) && decide (0 < x3) then inb x3 (List.length x0) else true then bif bif (!bif !y.fst.fst then true else bif decide (x3 = 0) then (rd ((Ty.i IntKind.i64).p (Ty.b.p ((Ty.b.p (Ty.s.l.p (Ty.s.p (Ty.i IntKind.i64)))).l.p (((Ty.i IntKind.i64).p (Ty.ex.p Ty.ex)).l.p ((Ty.i IntKind.i64).p (Ty.s.p (Ty.i IntKind.i64))))))) x0 x3).snd.fst else false) && decide (0 < x3) && !decide ((rd ((Ty.i IntKind.i64).p (Ty.b.p ((Ty.b.p (Ty.s.l.p (Ty.s.p (Ty.i IntKind.i64)))).l.p (((Ty.i IntKind.i64).p (Ty.ex.p Ty.ex)).l.p ((Ty.i IntKind.i64).p (Ty.s.p (Ty.i IntKind.i64))))))) x0 x3).fst ≤ (rd ((Ty.i IntKind.i64).p (Ty.b.p ((Ty.b.p (Ty.s.l.p (Ty.s.p (Ty.i IntKind.i64)))).l.p (((Ty.i IntKind.i64).p (Ty.ex.p Ty.ex)).l.p ((Ty.i IntKind.i64).p (Ty.s.p (Ty.i IntKind.i64))))))) x0 (IntKind.i64.wrap (x3 - 1))).fst) then inb (IntKind.i64.wrap (x3 - 1)) (List.length x0) else true then bif bif (!bif !y.fst.fst then true else bif decide (x3 = 0) then (rd ((Ty.i IntKind.i64).p (Ty.b.p ((Ty.b.p (Ty.s.l.p (Ty.s.p (Ty.i IntKind.i64)))).l.p (((Ty.i IntKind.i64).p (Ty.ex.p Ty.ex)).l.p ((Ty.i IntKind.i64).p (Ty.s.p (Ty.i IntKind.i64))))))) x0 x3).snd.fst else false) && decide (0 < x3) && !decide ((rd ((Ty.i IntKind.i64).p (Ty.b.p ((Ty.b.p (Ty.s.l.p (Ty.s.p (Ty.i IntKind.i64)))).l.p (((Ty.i IntKind.i64).p (Ty.ex.p Ty.ex)).l.p ((Ty.i IntKind.i64).p (Ty.s.p (Ty.i IntKind.i64))))))) x0 x3).fst ≤ (rd ((Ty.i IntKind.i64).p (Ty.b.p ((Ty.b.p (Ty.s.l.p (Ty.s.p (Ty.i IntKind.i64)))).l.p (((Ty.i IntKind.i64).p (Ty.ex.p Ty.ex)).l.p ((Ty.i IntKind.i64).p (Ty.s.p (Ty.i IntKind.i64))))))) x0 (IntKind.i64.wrap (x3 - 1))).fst) && (rd ((Ty.i IntKind.i64).p (Ty.b.p ((Ty.b.p (Ty.s.l.p (Ty.s.p (Ty.i IntKind.i64)))).l.p (((Ty.i IntKind.i64).p (Ty.ex.p Ty.ex)).l.p ((Ty.i IntKind.i64).p (Ty.s.p (Ty.i IntKind.i64))))))) x0 (IntKind.i64.wrap (x3 - 1))).snd.fst then inb x3 (List.length x0) else true then bif bif bif !y.fst.fst then true else bif decide (x3 = 0) then (rd ((Ty.i IntKind.i64).p (Ty.b.p ((Ty.b.p (Ty.s.l.p (Ty.s.p (Ty.i IntKind.i64)))).l.p (((Ty.i IntKind.i64).p (Ty.ex.p Ty.ex)).l.p ((Ty.i IntKind.i64).p (Ty.s.p (Ty.i IntKind.i64))))))) x0 x3).snd.fst else false then true else bif decide (0 < x3) then bif decide ((rd ((Ty.i IntKind.i64).p (Ty.b.p ((Ty.b.p (Ty.s.l.p (Ty.s.p (Ty.i IntKind.i64)))).l.p (((Ty.i IntKind.i64).p (Ty.ex.p Ty.ex)).l.p ((Ty.i IntKind.i64).p (Ty.s.p (Ty.i IntKind.i64))))))) x0 x3).fst ≤ (rd ((Ty.i IntKind.i64).p (Ty.b.p ((Ty.b.p (Ty.s.l.p (Ty.s.p (Ty.i IntKind.i64)))).l.p (((Ty.i IntKind.i64).p (Ty.ex.p Ty.ex)).l.p ((Ty.i IntKind.i64).p (Ty.s.p (Ty.i IntKind.i64))))))) x0 (IntKind.i64.wrap (x3 - 1))).fst) then true else bif (rd ((Ty.i IntKind.i64).p (Ty.b.p ((Ty.b.p (Ty.s.l.p (Ty.s.p (Ty.i IntKind.i64)))).l.p (((Ty.i IntKind.i64).p (Ty.ex.p Ty.ex)).l.p ((Ty.i IntKind.i64).p (Ty.s.p (Ty.i IntKind.i64))))))) x0 (IntKind.i64.wrap (x3 - 1))).snd.fst then (rd ((Ty.i IntKind.i64).p (Ty.b.p ((Ty.b.p (Ty.s.l.p (Ty.s.p (Ty.i IntKind.i64)))).l.p (((Ty.i IntKind.i64).p (Ty.ex.p Ty.ex)).l.p ((Ty.i IntKind.i64).p (Ty.s.p (Ty.i IntKind.i64))))))) x0 x3).snd.fst else false else false then some (Sum.inr (Sum.inl (false, ()))) else E30_0 k j (x0, IntKind.i64.wrap (x3 + 1), ()) else none else none else none else none else none else none else some (Sum.inl (x0, ()))) := by kernel_rfl
theorem F30_eq (k : Nat) (x0 : Ty.den T34) : F30 k (x0, ()) = (
(E30_0 k k (x0, 0, ())).bind fun y =>
  match y with
  | Sum.inl y => some ((decide ((↑(List.length y.fst) : Int) ≤ 8), ()), ())
  | Sum.inr y =>
    match y with
    | Sum.inl y => some ((y.fst, ()), ())
    | Sum.inr y => nomatch y) := by kernel_rfl
theorem E13_0_eq (k j : Nat) (x0 : Ty.den T22) (x3 : Ty.den T3) : E13_0 k (j + 1) (x0, x3, ()) = (
  bif decide (x3 < (↑(List.length x0) : Int)) then bif inb x3 (List.length x0) then (F29 k ((rd (Ty.s.p ((Ty.i IntKind.i64).p (Ty.b.p ((Ty.b.p (Ty.s.l.p (Ty.s.p (Ty.i IntKind.i64)))).l.p (((Ty.i IntKind.i64).p (Ty.ex.p Ty.ex)).l.p ((Ty.i IntKind.i64).p (Ty.s.p (Ty.i IntKind.i64))))))).l) x0 x3).fst, ())).bind fun y => bif bif !!y.fst.fst then inb x3 (List.length x0) else true then bif bif !bif !y.fst.fst then true else decide ((↑(List.length (rd (Ty.s.p ((Ty.i IntKind.i64).p (Ty.b.p ((Ty.b.p (Ty.s.l.p (Ty.s.p (Ty.i IntKind.i64)))).l.p (((Ty.i IntKind.i64).p (Ty.ex.p Ty.ex)).l.p ((Ty.i IntKind.i64).p (Ty.s.p (Ty.i IntKind.i64))))))).l) x0 x3).snd) : Int) = 0) then inb x3 (List.length x0) else true then (bif !bif !y.fst.fst then true else decide ((↑(List.length (rd (Ty.s.p ((Ty.i IntKind.i64).p (Ty.b.p ((Ty.b.p (Ty.s.l.p (Ty.s.p (Ty.i IntKind.i64)))).l.p (((Ty.i IntKind.i64).p (Ty.ex.p Ty.ex)).l.p ((Ty.i IntKind.i64).p (Ty.s.p (Ty.i IntKind.i64))))))).l) x0 x3).snd) : Int) = 0) then F30 k ((rd (Ty.s.p ((Ty.i IntKind.i64).p (Ty.b.p ((Ty.b.p (Ty.s.l.p (Ty.s.p (Ty.i IntKind.i64)))).l.p (((Ty.i IntKind.i64).p (Ty.ex.p Ty.ex)).l.p ((Ty.i IntKind.i64).p (Ty.s.p (Ty.i IntKind.i64))))))).l) x0 x3).snd, ()) else some ((Ty.b.dflt, ()), ())).bind fun y_1 => bif bif (!bif bif !y.fst.fst then true else decide ((↑(List.length (rd (Ty.s.p ((Ty.i IntKind.i64).p (Ty.b.p ((Ty.b.p (Ty.s.l.p (Ty.s.p (Ty.i IntKind.i64)))).l.p (((Ty.i IntKind.i64).p (Ty.ex.p Ty.ex)).l.p ((Ty.i IntKind.i64).p (Ty.s.p (Ty.i IntKind.i64))))))).l) x0 x3).snd) : Int) = 0) then true else !y_1.fst.fst) && decide (0 < x3) then inb (IntKind.i64.wrap (x3 - 1)) (List.length x0) else true then bif bif (!bif bif !y.fst.fst then true else decide ((↑(List.length (rd (Ty.s.p ((Ty.i IntKind.i64).p (Ty.b.p ((Ty.b.p (Ty.s.l.p (Ty.s.p (Ty.i IntKind.i64)))).l.p (((Ty.i IntKind.i64).p (Ty.ex.p Ty.ex)).l.p ((Ty.i IntKind.i64).p (Ty.s.p (Ty.i IntKind.i64))))))).l) x0 x3).snd) : Int) = 0) then true else !y_1.fst.fst) && decide (0 < x3) then inb x3 (List.length x0) else true then bif bif bif bif !y.fst.fst then true else decide ((↑(List.length (rd (Ty.s.p ((Ty.i IntKind.i64).p (Ty.b.p ((Ty.b.p (Ty.s.l.p (Ty.s.p (Ty.i IntKind.i64)))).l.p (((Ty.i IntKind.i64).p (Ty.ex.p Ty.ex)).l.p ((Ty.i IntKind.i64).p (Ty.s.p (Ty.i IntKind.i64))))))).l) x0 x3).snd) : Int) = 0) then true else !y_1.fst.fst then true else bif decide (0 < x3) then !strLt (rd (Ty.s.p ((Ty.i IntKind.i64).p (Ty.b.p ((Ty.b.p (Ty.s.l.p (Ty.s.p (Ty.i IntKind.i64)))).l.p (((Ty.i IntKind.i64).p (Ty.ex.p Ty.ex)).l.p ((Ty.i IntKind.i64).p (Ty.s.p (Ty.i IntKind.i64))))))).l) x0 (IntKind.i64.wrap (x3 - 1))).fst (rd (Ty.s.p ((Ty.i IntKind.i64).p (Ty.b.p ((Ty.b.p (Ty.s.l.p (Ty.s.p (Ty.i IntKind.i64)))).l.p (((Ty.i IntKind.i64).p (Ty.ex.p Ty.ex)).l.p ((Ty.i IntKind.i64).p (Ty.s.p (Ty.i IntKind.i64))))))).l) x0 x3).fst else false then some (Sum.inr (Sum.inl (false, ()))) else E13_0 k j (x0, IntKind.i64.wrap (x3 + 1), ()) else none else none else none else none else none else some (Sum.inl (x0, ()))) := by kernel_rfl
theorem F13_eq (k : Nat) (x0 : Ty.den T22) : F13 k (x0, ()) = (
(E13_0 k k (x0, 0, ())).bind fun y =>
  match y with
  | Sum.inl y => some ((decide ((↑(List.length y.fst) : Int) ≤ 8), ()), ())
  | Sum.inr y =>
    match y with
    | Sum.inl y => some ((y.fst, ()), ())
    | Sum.inr y => nomatch y) := by kernel_rfl
theorem E47_0_eq (k j : Nat) (x1 : Ty.den T9) (x2f0 : Ty.den T66) (x5 : Ty.den T3) : E47_0 k (j + 1) (x1, (x2f0, ()), x5, ()) = (
  bif decide (x5 < (↑(List.length x2f0.snd.fst) : Int)) then bif inb x5 (List.length x2f0.snd.fst) then bif decide (rd Ty.s x2f0.snd.fst x5 = x1) then some (Sum.inr (Sum.inl (true, ()))) else E47_0 k j (x1, (x2f0, ()), IntKind.i64.wrap (x5 + 1), ()) else none else some (Sum.inl ())) := by kernel_rfl
theorem F47_eq (k : Nat) (x0 : Ty.den T66) (x1 : Ty.den T9) : F47 k (x0, x1, ()) = (
(E47_0 k k (x1, (x0, ()), 0, ())).bind fun y =>
  match y with
  | Sum.inl y => some ((false, ()), ())
  | Sum.inr y =>
    match y with
    | Sum.inl y => some ((y.fst, ()), ())
    | Sum.inr y => nomatch y) := by kernel_rfl
theorem E34_0_0_eq (k j : Nat) (x1 : Ty.den T9) (x2f0 : Ty.den T36) (x5 : Ty.den T3) (x6f0 : Ty.den T53) (x7 : Ty.den T3) : E34_0_0 k (j + 1) (x1, (x2f0, ()), x5, (x6f0, ()), x7, ()) = (
  bif decide (x7 < (↑(List.length x6f0.fst) : Int)) then bif inb x7 (List.length x6f0.fst) then (F47 k (rd (Ty.b.p (Ty.s.l.p (Ty.s.p (Ty.i IntKind.i64)))) x6f0.fst x7, x1, ())).bind fun y => bif y.fst.fst then some (Sum.inr (Sum.inl (true, ()))) else E34_0_0 k j (x1, (x2f0, ()), x5, (x6f0, ()), IntKind.i64.wrap (x7 + 1), ()) else none else some (Sum.inl (x1, (x2f0, ()), x5, ()))) := by kernel_rfl
theorem E34_0_eq (k j : Nat) (x1 : Ty.den T9) (x2f0 : Ty.den T36) (x5 : Ty.den T3) : E34_0 k (j + 1) (x1, (x2f0, ()), x5, ()) = (
  bif decide (x5 < (↑(List.length x2f0.snd) : Int)) then
  bif inb x5 (List.length x2f0.snd) then
    (E34_0_0 k k (x1, (x2f0, ()), x5, ((rd ((Ty.i IntKind.i64).p (Ty.b.p ((Ty.b.p (Ty.s.l.p (Ty.s.p (Ty.i IntKind.i64)))).l.p (((Ty.i IntKind.i64).p (Ty.ex.p Ty.ex)).l.p ((Ty.i IntKind.i64).p (Ty.s.p (Ty.i IntKind.i64))))))) x2f0.snd x5).snd.snd, ()), 0, ())).bind fun y =>
      match y with
      | Sum.inl y => E34_0 k j (y.fst, (y.snd.fst.fst, ()), IntKind.i64.wrap (y.snd.snd.fst + 1), ())
      | Sum.inr y =>
        match y with
        | Sum.inl y => some (Sum.inr (Sum.inl (y.fst, ())))
        | Sum.inr y => nomatch y
  else none
  else some (Sum.inl ())) := by kernel_rfl
theorem F34_eq (k : Nat) (x0 : Ty.den T36) (x1 : Ty.den T9) : F34 k (x0, x1, ()) = (
(E34_0 k k (x1, (x0, ()), 0, ())).bind fun y =>
  match y with
  | Sum.inl y => some ((false, ()), ())
  | Sum.inr y =>
    match y with
    | Sum.inl y => some ((y.fst, ()), ())
    | Sum.inr y => nomatch y) := by kernel_rfl
theorem E18_0_eq (k j : Nat) (x0 : Ty.den T22) (x1 : Ty.den T3) (x5 : List (Ty.den T3)) (x6 : Ty.den T3) : E18_0 k (j + 1) (x0, x1, x5, x6, ()) = (
  bif decide (x6 < (↑(List.length x0) : Int)) then bif inb x1 (List.length x0) then bif inb x6 (List.length x0) then (F34 k (rd (Ty.s.p ((Ty.i IntKind.i64).p (Ty.b.p ((Ty.b.p (Ty.s.l.p (Ty.s.p (Ty.i IntKind.i64)))).l.p (((Ty.i IntKind.i64).p (Ty.ex.p Ty.ex)).l.p ((Ty.i IntKind.i64).p (Ty.s.p (Ty.i IntKind.i64))))))).l) x0 x1, (rd (Ty.s.p ((Ty.i IntKind.i64).p (Ty.b.p ((Ty.b.p (Ty.s.l.p (Ty.s.p (Ty.i IntKind.i64)))).l.p (((Ty.i IntKind.i64).p (Ty.ex.p Ty.ex)).l.p ((Ty.i IntKind.i64).p (Ty.s.p (Ty.i IntKind.i64))))))).l) x0 x6).fst, ())).bind fun y => bif y.fst.fst then bif decide ((x5.length + [x6].length) * (7 + 1) ≤ 140737488355328) then E18_0 k j (x0, x1, x5 ++ [x6], IntKind.i64.wrap (x6 + 1), ()) else none else E18_0 k j (x0, x1, x5, IntKind.i64.wrap (x6 + 1), ()) else none else none else some (Sum.inl (x5, ()))) := by kernel_rfl
theorem F18_eq (k : Nat) (x0 : Ty.den T22) (x1 : Ty.den T3) : F18 k (x0, x1, ()) = (
(F13 k (x0, ())).bind fun y =>
  bif bif bif !y.fst.fst then true else decide (x1 < 0) then true else decide ((↑(List.length x0) : Int) ≤ x1) then some (([], ()), ())
  else
    (E18_0 k k (x0, x1, [], 0, ())).bind fun y =>
      match y with
      | Sum.inl y => some ((y.fst, ()), ())
      | Sum.inr y => nomatch y) := by kernel_rfl
theorem E11_0_0_0_eq (k j : Nat) (x0 : Ty.den T22) (x4 : List (Ty.den T3)) (x5 : Ty.den T3) (x6 : Ty.den T4) (x7 : Ty.den T3) (x8 : Ty.den T3) (x9 : Ty.den T25) (x10 : Ty.den T3) : E11_0_0_0 k (j + 1) (x0, x4, x5, x6, x7, x8, x9, x10, ()) = (
  bif decide (x10 < (↑(List.length x9) : Int)) then bif inb x10 (List.length x9) then bif inb (rd (Ty.i IntKind.i64) x9 x10) x4.length then bif inb (rd (Ty.i IntKind.i64) x9 x10) x4.length then E11_0_0_0 k j (x0, x4, x5, x6, x7, bif true then bif decide (x8 < IntKind.i64.wrap (rd (Ty.i IntKind.i64) x4 (rd (Ty.i IntKind.i64) x9 x10) + 1)) then IntKind.i64.wrap (rd (Ty.i IntKind.i64) x4 (rd (Ty.i IntKind.i64) x9 x10) + 1) else x8 else bif decide (IntKind.i64.wrap (rd (Ty.i IntKind.i64) x4 (rd (Ty.i IntKind.i64) x9 x10) + 1) < x8) then IntKind.i64.wrap (rd (Ty.i IntKind.i64) x4 (rd (Ty.i IntKind.i64) x9 x10) + 1) else x8, x9, IntKind.i64.wrap (x10 + 1), ()) else none else none else none else some (Sum.inl (x0, x4, x5, x6, x7, x8, ()))) := by kernel_rfl
theorem E11_0_0_eq (k j : Nat) (x0 : Ty.den T22) (x4 : List (Ty.den T3)) (x5 : Ty.den T3) (x6 : Ty.den T4) (x7 : Ty.den T3) : E11_0_0 k (j + 1) (x0, x4, x5, x6, x7, ()) = (
  bif decide (x7 < (↑(List.length x0) : Int)) then
  (F18 k (x0, x7, ())).bind fun y =>
    (E11_0_0_0 k k (x0, x4, x5, x6, x7, 1, y.fst.fst, 0, ())).bind fun y =>
      match y with
      | Sum.inl y => bif inb y.snd.snd.snd.snd.fst (List.length y.snd.fst) then bif inb y.snd.snd.snd.snd.fst (List.length y.snd.fst) then bif !decide (y.snd.snd.snd.snd.snd.fst = rd (Ty.i IntKind.i64) y.snd.fst y.snd.snd.snd.snd.fst) then bif inb y.snd.snd.snd.snd.fst (List.length y.snd.fst) then bif inb y.snd.snd.snd.snd.fst (List.length y.snd.fst) then E11_0_0 k j (y.fst, List.set y.snd.fst (Int.toNat y.snd.snd.snd.snd.fst) y.snd.snd.snd.snd.snd.fst, y.snd.snd.fst, false, IntKind.i64.wrap (y.snd.snd.snd.snd.fst + 1), ()) else none else none else bif inb y.snd.snd.snd.snd.fst (List.length y.snd.fst) then bif inb y.snd.snd.snd.snd.fst (List.length y.snd.fst) then E11_0_0 k j (y.fst, List.set y.snd.fst (Int.toNat y.snd.snd.snd.snd.fst) y.snd.snd.snd.snd.snd.fst, y.snd.snd.fst, y.snd.snd.snd.fst, IntKind.i64.wrap (y.snd.snd.snd.snd.fst + 1), ()) else none else none else none else none
      | Sum.inr y => nomatch y
  else some (Sum.inl (x0, x4, x5, x6, ()))) := by kernel_rfl
theorem E11_0_1_eq (k j : Nat) (x0 : Ty.den T22) (x4 : List (Ty.den T3)) (x11 : Ty.den T3) : E11_0_1 k (j + 1) (x0, x4, x11, ()) = (
  bif decide (x11 < (↑(List.length x0) : Int)) then bif inb x11 x4.length then bif inb x11 x4.length then bif decide (3 < rd (Ty.i IntKind.i64) x4 x11) then some (Sum.inr (Sum.inl ([], 2, ()))) else E11_0_1 k j (x0, x4, IntKind.i64.wrap (x11 + 1), ()) else none else none else some (Sum.inl (x4, ()))) := by kernel_rfl
theorem E11_0_eq (k j : Nat) (x0 : Ty.den T22) (x4 : List (Ty.den T3)) (x5 : Ty.den T3) : E11_0 k (j + 1) (x0, x4, x5, ()) = (
  bif decide (x5 ≤ (↑(List.length x0) : Int)) then
  (E11_0_0 k k (x0, x4, x5, true, 0, ())).bind fun y =>
    match y with
    | Sum.inl y =>
      bif y.snd.snd.snd.fst then
        (E11_0_1 k k (y.fst, y.snd.fst, 0, ())).bind fun y =>
          match y with
          | Sum.inl y => some (Sum.inr (Sum.inl (y.fst, 0, ())))
          | Sum.inr y =>
            match y with
            | Sum.inl y => some (Sum.inr (Sum.inl (y.fst, y.snd.fst, ())))
            | Sum.inr y => nomatch y
      else E11_0 k j (y.fst, y.snd.fst, IntKind.i64.wrap (y.snd.snd.fst + 1), ())
    | Sum.inr y => nomatch y
  else some (Sum.inl ())) := by kernel_rfl
theorem F11_eq (k : Nat) (x0 : Ty.den T22) : F11 k (x0, ()) = (
(F13 k (x0, ())).bind fun y =>
  bif !y.fst.fst then some (([], 1, ()), ())
  else
    bif decide (0 ≤ (↑(List.length x0) : Int)) && (decide ((↑(List.length x0) : Int) ≤ (↑(List.length x0) : Int)) && (decide ((↑(List.length x0) : Int) * (↑Tryz.prog.types[3].bytes : Int) ≤ 140737488355328) && decide ((↑(List.length x0) : Int) ≤ 140737488355328))) then
      (E11_0 k k (x0, List.replicate (↑(List.length x0) : Int).toNat 0, 0, ())).bind fun y =>
        match y with
        | Sum.inl y => some (([], 161, ()), ())
        | Sum.inr y =>
          match y with
          | Sum.inl y => some ((y.fst, y.snd.fst, ()), ())
          | Sum.inr y => nomatch y
    else none) := by kernel_rfl
theorem E16_0_0_eq (k j : Nat) (x3 : List (Ty.den T3)) (x4 : Ty.den T25) (x5 : Ty.den T26) (x6 : Ty.den T3) (x7 : Ty.den T3) : E16_0_0 k (j + 1) (x3, x4, x5, x6, x7, ()) = (
  bif decide (x7 < (↑(List.length x4) : Int)) then bif inb x7 (List.length x4) then bif decide (rd (Ty.i IntKind.i64) x4 x7 = x6) then bif decide ((x3.length + [x7].length) * (7 + 1) ≤ 140737488355328) then E16_0_0 k j (x3 ++ [x7], x4, x5, x6, IntKind.i64.wrap (x7 + 1), ()) else none else E16_0_0 k j (x3, x4, x5, x6, IntKind.i64.wrap (x7 + 1), ()) else none else some (Sum.inl (x3, x4, x5, x6, ()))) := by kernel_rfl
theorem E16_0_eq (k j : Nat) (x3 : List (Ty.den T3)) (x4 : Ty.den T25) (x5 : Ty.den T26) (x6 : Ty.den T3) : E16_0 k (j + 1) (x3, x4, x5, x6, ()) = (
  bif bif decide (x5 = 0) then decide (x6 ≤ 3) else false then
  (E16_0_0 k k (x3, x4, x5, x6, 0, ())).bind fun y =>
    match y with
    | Sum.inl y => E16_0 k j (y.fst, y.snd.fst, y.snd.snd.fst, IntKind.i64.wrap (y.snd.snd.snd.fst + 1), ())
    | Sum.inr y => nomatch y
  else some (Sum.inl (x3, ()))) := by kernel_rfl
theorem F16_eq (k : Nat) (x0 : Ty.den T22) : F16 k (x0, ()) = (
(F11 k (x0, ())).bind fun y =>
  (E16_0 k k ([], y.fst.fst, y.fst.snd.fst, 1, ())).bind fun y =>
    match y with
    | Sum.inl y => some ((y.fst, ()), ())
    | Sum.inr y => nomatch y) := by kernel_rfl
theorem E20_0_0_0_eq (k j : Nat) (x0 : Ty.den T22) (x1 : Ty.den T3) (x5 : List (Ty.den T4)) (x6 : Ty.den T3) (x7 : Ty.den T3) (x8 : Ty.den T25) (x9 : Ty.den T3) : E20_0_0_0 k (j + 1) (x0, x1, x5, x6, x7, x8, x9, ()) = (
  bif decide (x9 < (↑(List.length x8) : Int)) then bif inb x7 x5.length then bif inb x7 x5.length then bif bif !rd Ty.b x5 x7 then inb x9 (List.length x8) else true then bif bif !bif rd Ty.b x5 x7 then true else decide (rd (Ty.i IntKind.i64) x8 x9 = x1) then inb x9 (List.length x8) else true then bif bif !bif rd Ty.b x5 x7 then true else decide (rd (Ty.i IntKind.i64) x8 x9 = x1) then inb (rd (Ty.i IntKind.i64) x8 x9) x5.length else true then bif bif !bif rd Ty.b x5 x7 then true else decide (rd (Ty.i IntKind.i64) x8 x9 = x1) then inb (rd (Ty.i IntKind.i64) x8 x9) x5.length else true then bif inb x7 x5.length then bif inb x7 x5.length then E20_0_0_0 k j (x0, x1, x5.set (Int.toNat x7) (bif bif rd Ty.b x5 x7 then true else decide (rd (Ty.i IntKind.i64) x8 x9 = x1) then true else rd Ty.b x5 (rd (Ty.i IntKind.i64) x8 x9)), x6, x7, x8, IntKind.i64.wrap (x9 + 1), ()) else none else none else none else none else none else none else none else none else some (Sum.inl (x0, x1, x5, x6, x7, ()))) := by kernel_rfl
theorem E20_0_0_eq (k j : Nat) (x0 : Ty.den T22) (x1 : Ty.den T3) (x5 : List (Ty.den T4)) (x6 : Ty.den T3) (x7 : Ty.den T3) : E20_0_0 k (j + 1) (x0, x1, x5, x6, x7, ()) = (
  bif decide (x7 < (↑(List.length x0) : Int)) then
  (F18 k (x0, x7, ())).bind fun y =>
    (E20_0_0_0 k k (x0, x1, x5, x6, x7, y.fst.fst, 0, ())).bind fun y =>
      match y with
      | Sum.inl y => E20_0_0 k j (y.fst, y.snd.fst, y.snd.snd.fst, y.snd.snd.snd.fst, IntKind.i64.wrap (y.snd.snd.snd.snd.fst + 1), ())
      | Sum.inr y => nomatch y
  else some (Sum.inl (x0, x1, x5, x6, ()))) := by kernel_rfl
theorem E20_0_eq (k j : Nat) (x0 : Ty.den T22) (x1 : Ty.den T3) (x5 : List (Ty.den T4)) (x6 : Ty.den T3) : E20_0 k (j + 1) (x0, x1, x5, x6, ()) = (
  bif decide (x6 < (↑(List.length x0) : Int)) then
  (E20_0_0 k k (x0, x1, x5, x6, 0, ())).bind fun y =>
    match y with
    | Sum.inl y => E20_0 k j (y.fst, y.snd.fst, y.snd.snd.fst, IntKind.i64.wrap (y.snd.snd.snd.fst + 1), ())
    | Sum.inr y => nomatch y
  else some (Sum.inl (x0, x5, ()))) := by kernel_rfl
theorem E20_1_eq (k j : Nat) (x0 : Ty.den T22) (x5 : List (Ty.den T4)) (x10 : List (Ty.den T3)) (x11 : Ty.den T3) : E20_1 k (j + 1) (x0, x5, x10, x11, ()) = (
  bif decide (x11 < (↑(List.length x0) : Int)) then bif inb x11 x5.length then bif inb x11 x5.length then bif rd Ty.b x5 x11 then bif decide ((x10.length + [x11].length) * (7 + 1) ≤ 140737488355328) then E20_1 k j (x0, x5, x10 ++ [x11], IntKind.i64.wrap (x11 + 1), ()) else none else E20_1 k j (x0, x5, x10, IntKind.i64.wrap (x11 + 1), ()) else none else none else some (Sum.inl (x10, ()))) := by kernel_rfl
theorem F20_eq (k : Nat) (x0 : Ty.den T22) (x1 : Ty.den T3) : F20 k (x0, x1, ()) = (
(F13 k (x0, ())).bind fun y =>
  bif bif bif !y.fst.fst then true else decide (x1 < 0) then true else decide ((↑(List.length x0) : Int) ≤ x1) then some (([], ()), ())
  else
    bif decide (0 ≤ (↑(List.length x0) : Int)) && (decide ((↑(List.length x0) : Int) ≤ (↑(List.length x0) : Int)) && (decide ((↑(List.length x0) : Int) * (↑Tryz.prog.types[4].bytes : Int) ≤ 140737488355328) && decide ((↑(List.length x0) : Int) ≤ 140737488355328))) then
      (E20_0 k k (x0, x1, List.replicate (↑(List.length x0) : Int).toNat false, 0, ())).bind fun y =>
        match y with
        | Sum.inl y =>
          (E20_1 k k (y.fst, y.snd.fst, [], 0, ())).bind fun y =>
            match y with
            | Sum.inl y => some ((y.fst, ()), ())
            | Sum.inr y => nomatch y
        | Sum.inr y => nomatch y
    else none) := by kernel_rfl
theorem F3_eq (k : Nat) (x0 : Ty.den T22) (x1 : Ty.den T3) : F3 k (x0, x1, ()) = (
(F8 k ()).bind fun y => (F9 k (x0, ())).bind fun y_1 => bif y_1.fst.fst then some ((y.fst.fst, ()), ()) else (F10 k (x0, ())).bind fun y_2 => (F11 k (x0, ())).bind fun y_3 => (bif y.fst.fst then F12 k (x0, ()) else some ((Ty.b.dflt, ()), ())).bind fun y_4 => (bif y.fst.fst then F13 k (x0, ()) else some ((Ty.b.dflt, ()), ())).bind fun y_5 => (bif bif y.fst.fst then decide (y_4.fst.fst = y_5.fst.fst) else false then F14 k (y_2.fst.fst, y_3.fst.fst, ()) else some ((Ty.b.dflt, ()), ())).bind fun y_6 => bif bif bif bif y.fst.fst then decide (y_4.fst.fst = y_5.fst.fst) else false then y_6.fst.fst else false then decide (y_2.fst.snd.fst = y_3.fst.snd.fst) else false then (F15 k (x0, ())).bind fun y => (F16 k (x0, ())).bind fun y_7 => (bif true then F14 k (y.fst.fst, y_7.fst.fst, ()) else some ((Ty.b.dflt, ()), ())).bind fun y => bif bif true then y.fst.fst else false then (F17 k (x0, x1, ())).bind fun y => (F18 k (x0, x1, ())).bind fun y_8 => (bif true then F14 k (y.fst.fst, y_8.fst.fst, ()) else some ((Ty.b.dflt, ()), ())).bind fun y => bif bif true then y.fst.fst else false then (F19 k (x0, x1, ())).bind fun y => (F20 k (x0, x1, ())).bind fun y_9 => (bif true then F14 k (y.fst.fst, y_9.fst.fst, ()) else some ((Ty.b.dflt, ()), ())).bind fun y => some ((bif true then y.fst.fst else false, ()), ()) else some ((false, ()), ()) else some ((false, ()), ()) else some ((false, ()), ())) := by kernel_rfl
theorem E21_0_eq (k j : Nat) (x0 : Ty.den T25) (x1 : Ty.den T3) (x5 : Ty.den T3) : E21_0 k (j + 1) (x0, x1, x5, ()) = (
  bif decide (x5 < (↑(List.length x0) : Int)) then bif inb x5 (List.length x0) then bif decide (rd (Ty.i IntKind.i64) x0 x5 = x1) then some (Sum.inr (Sum.inl (x5, ()))) else E21_0 k j (x0, x1, IntKind.i64.wrap (x5 + 1), ()) else none else some (Sum.inl ())) := by kernel_rfl
theorem F21_eq (k : Nat) (x0 : Ty.den T25) (x1 : Ty.den T3) : F21 k (x0, x1, ()) = (
(E21_0 k k (x0, x1, 0, ())).bind fun y =>
  match y with
  | Sum.inl y => some ((-1, ()), ())
  | Sum.inr y =>
    match y with
    | Sum.inl y => some ((y.fst, ()), ())
    | Sum.inr y => nomatch y) := by kernel_rfl
theorem E4_0_0_eq (k j : Nat) (x0 : Ty.den T22) (x3 : Ty.den T4) (x4 : Ty.den T25) (x6 : Ty.den T25) (x7 : Ty.den T3) (x8 : Ty.den T3) (x9 : Ty.den T25) (x10 : Ty.den T3) (x11 : Ty.den T3) : E4_0_0 k (j + 1) (x0, x3, x4, x6, x7, x8, x9, x10, x11, ()) = (
  bif decide (x11 < (↑(List.length x9) : Int)) then bif inb x11 (List.length x9) then (F21 k (x6, rd (Ty.i IntKind.i64) x9 x11, ())).bind fun y => bif bif bif bif decide (y.fst.fst < 0) then true else decide (x8 ≤ y.fst.fst) then true else decide (rd (Ty.i IntKind.i64) x9 x11 < 0) then true else decide ((↑(List.length x4) : Int) ≤ rd (Ty.i IntKind.i64) x9 x11) then some (Sum.inr (Sum.inl (false, ()))) else bif inb (rd (Ty.i IntKind.i64) x9 x11) (List.length x4) then E4_0_0 k j (x0, x3, x4, x6, x7, x8, x9, bif true then bif decide (x10 < rd (Ty.i IntKind.i64) x4 (rd (Ty.i IntKind.i64) x9 x11)) then rd (Ty.i IntKind.i64) x4 (rd (Ty.i IntKind.i64) x9 x11) else x10 else bif decide (rd (Ty.i IntKind.i64) x4 (rd (Ty.i IntKind.i64) x9 x11) < x10) then rd (Ty.i IntKind.i64) x4 (rd (Ty.i IntKind.i64) x9 x11) else x10, IntKind.i64.wrap (x11 + 1), ()) else none else none else some (Sum.inl (x0, x3, x4, x6, x7, x10, ()))) := by kernel_rfl
theorem E4_0_eq (k j : Nat) (x0 : Ty.den T22) (x3 : Ty.den T4) (x4 : Ty.den T25) (x6 : Ty.den T25) (x7 : Ty.den T3) : E4_0 k (j + 1) (x0, x3, x4, x6, x7, ()) = (
  bif decide (x7 < (↑(List.length x0) : Int)) then
  (F21 k (x6, x7, ())).bind fun y =>
    bif bif !decide (y.fst.fst < 0) then inb x7 (List.length x4) else true then
      bif bif !bif decide (y.fst.fst < 0) then true else decide (rd (Ty.i IntKind.i64) x4 x7 < 1) then inb x7 (List.length x4) else true then
        bif bif bif decide (y.fst.fst < 0) then true else decide (rd (Ty.i IntKind.i64) x4 x7 < 1) then true else decide (3 < rd (Ty.i IntKind.i64) x4 x7) then some (Sum.inr (Sum.inl (false, ())))
        else
          (F17 k (x0, x7, ())).bind fun y_1 =>
            (E4_0_0 k k (x0, x3, x4, x6, x7, y.fst.fst, y_1.fst.fst, 0, 0, ())).bind fun y =>
              match y with
              | Sum.inl y => bif inb y.snd.snd.snd.snd.fst (List.length y.snd.snd.fst) then bif !decide (rd (Ty.i IntKind.i64) y.snd.snd.fst y.snd.snd.snd.snd.fst = IntKind.i64.wrap (y.snd.snd.snd.snd.snd.fst + 1)) then some (Sum.inr (Sum.inl (false, ()))) else E4_0 k j (y.fst, y.snd.fst, y.snd.snd.fst, y.snd.snd.snd.fst, IntKind.i64.wrap (y.snd.snd.snd.snd.fst + 1), ()) else none
              | Sum.inr y =>
                match y with
                | Sum.inl y => some (Sum.inr (Sum.inl (y.fst, ())))
                | Sum.inr y => nomatch y
      else none
    else none
  else some (Sum.inl (x3, ()))) := by kernel_rfl
theorem F4_eq (k : Nat) (x0 : Ty.den T22) : F4 k (x0, ()) = (
(F8 k ()).bind fun y =>
  (F9 k (x0, ())).bind fun y_1 =>
    (bif !y_1.fst.fst then F13 k (x0, ()) else some ((Ty.b.dflt, ()), ())).bind fun y_2 =>
      bif bif y_1.fst.fst then true else !y_2.fst.fst then some ((y.fst.fst, ()), ())
      else
        (F10 k (x0, ())).bind fun y_3 =>
          (F15 k (x0, ())).bind fun y_4 =>
            bif !decide (y_3.fst.snd.fst = 0) then some ((bif bif bif y.fst.fst then decide ((↑(List.length y_4.fst.fst) : Int) = 0) else false then decide ((↑(List.length y_3.fst.fst) : Int) = 0) else false then bif decide (y_3.fst.snd.fst = 161) then true else decide (y_3.fst.snd.fst = 2) else false, ()), ())
            else
              bif bif !decide ((↑(List.length y_4.fst.fst) : Int) = (↑(List.length x0) : Int)) then true else !decide ((↑(List.length y_3.fst.fst) : Int) = (↑(List.length x0) : Int)) then some ((false, ()), ())
              else
                (E4_0 k k (x0, y.fst.fst, y_3.fst.fst, y_4.fst.fst, 0, ())).bind fun y =>
                  match y with
                  | Sum.inl y => some ((y.fst, ()), ())
                  | Sum.inr y =>
                    match y with
                    | Sum.inl y => some ((y.fst, ()), ())
                    | Sum.inr y => nomatch y) := by kernel_rfl
theorem E5_0_0_0_eq (k j : Nat) (x0 : Ty.den T22) (x3 : Ty.den T4) (x5 : Ty.den T26) (x6 : Ty.den T3) (x7 : Ty.den T25) (x8 : Ty.den T3) (x10 : Ty.den T25) (x11 : Ty.den T4) (x12 : Ty.den T3) : E5_0_0_0 k (j + 1) (x0, x3, x5, x6, x7, x8, x10, x11, x12, ()) = (
  bif decide (x12 < (↑(List.length x10) : Int)) then bif bif !x11 then inb x12 (List.length x10) else true then (bif !x11 then F21 k (x7, rd (Ty.i IntKind.i64) x10 x12, ()) else some (((Ty.i IntKind.i64).dflt, ()), ())).bind fun y => E5_0_0_0 k j (x0, x3, x5, x6, x7, x8, x10, bif x11 then true else decide (0 ≤ y.fst.fst), IntKind.i64.wrap (x12 + 1), ()) else none else some (Sum.inl (x0, x3, x5, x6, x7, x8, x11, ()))) := by kernel_rfl
theorem E5_0_0_eq (k j : Nat) (x0 : Ty.den T22) (x3 : Ty.den T4) (x5 : Ty.den T26) (x6 : Ty.den T3) (x7 : Ty.den T25) (x8 : Ty.den T3) : E5_0_0 k (j + 1) (x0, x3, x5, x6, x7, x8, ()) = (
  let t0 : Bool := (bif decide (rd (Ty.i IntKind.i64) x7 x8 < 0) then true else decide ((↑(List.length x0) : Int) ≤ rd (Ty.i IntKind.i64) x7 x8));
  bif decide (x8 < (↑(List.length x7) : Int)) then
  bif inb x8 (List.length x7) then
    bif bif !t0 && decide (0 < x8) then inb (IntKind.i64.wrap (x8 - 1)) (List.length x7) else true then
      bif bif bif t0 then true else bif decide (0 < x8) then decide (rd (Ty.i IntKind.i64) x7 x8 ≤ rd (Ty.i IntKind.i64) x7 (IntKind.i64.wrap (x8 - 1))) else false then true else bif decide (x5 = 0) then decide (rd (Ty.i IntKind.i64) x7 x8 = x6) else false then some (Sum.inr (Sum.inl (false, ())))
      else
        (F17 k (x0, rd (Ty.i IntKind.i64) x7 x8, ())).bind fun y =>
          (F21 k (y.fst.fst, x6, ())).bind fun y_1 =>
            (E5_0_0_0 k k (x0, x3, x5, x6, x7, x8, y.fst.fst, decide (0 ≤ y_1.fst.fst), 0, ())).bind fun y =>
              match y with
              | Sum.inl y => bif !y.snd.snd.snd.snd.snd.snd.fst then some (Sum.inr (Sum.inl (false, ()))) else E5_0_0 k j (y.fst, y.snd.fst, y.snd.snd.fst, y.snd.snd.snd.fst, y.snd.snd.snd.snd.fst, IntKind.i64.wrap (y.snd.snd.snd.snd.snd.fst + 1), ())
              | Sum.inr y => nomatch y
    else none
  else none
  else some (Sum.inl (x0, x3, x5, x6, x7, ()))) := by kernel_rfl
theorem E5_0_1_0_eq (k j : Nat) (x0 : Ty.den T22) (x3 : Ty.den T4) (x5 : Ty.den T26) (x6 : Ty.den T3) (x7 : Ty.den T25) (x13 : Ty.den T25) (x14 : Ty.den T3) (x15 : Ty.den T25) (x16 : Ty.den T3) : E5_0_1_0 k (j + 1) (x0, x3, x5, x6, x7, x13, x14, x15, x16, ()) = (
  bif decide (x16 < (↑(List.length x7) : Int)) then bif inb x16 (List.length x7) then (F21 k (x15, rd (Ty.i IntKind.i64) x7 x16, ())).bind fun y => bif decide (y.fst.fst < 0) then some (Sum.inr (Sum.inl (false, ()))) else E5_0_1_0 k j (x0, x3, x5, x6, x7, x13, x14, x15, IntKind.i64.wrap (x16 + 1), ()) else none else some (Sum.inl (x0, x3, x5, x6, x7, x13, x14, ()))) := by kernel_rfl
theorem E5_0_1_eq (k j : Nat) (x0 : Ty.den T22) (x3 : Ty.den T4) (x5 : Ty.den T26) (x6 : Ty.den T3) (x7 : Ty.den T25) (x13 : Ty.den T25) (x14 : Ty.den T3) : E5_0_1 k (j + 1) (x0, x3, x5, x6, x7, x13, x14, ()) = (
  bif decide (x14 < (↑(List.length x13) : Int)) then
  bif inb x14 (List.length x13) then
    (F19 k (x0, rd (Ty.i IntKind.i64) x13 x14, ())).bind fun y =>
      (F21 k (y.fst.fst, x6, ())).bind fun y_1 =>
        bif decide (y_1.fst.fst < 0) then some (Sum.inr (Sum.inl (false, ())))
        else
          (E5_0_1_0 k k (x0, x3, x5, x6, x7, x13, x14, y.fst.fst, 0, ())).bind fun y =>
            match y with
            | Sum.inl y => E5_0_1 k j (y.fst, y.snd.fst, y.snd.snd.fst, y.snd.snd.snd.fst, y.snd.snd.snd.snd.fst, y.snd.snd.snd.snd.snd.fst, IntKind.i64.wrap (y.snd.snd.snd.snd.snd.snd.fst + 1), ())
            | Sum.inr y =>
              match y with
              | Sum.inl y => some (Sum.inr (Sum.inl (y.fst, ())))
              | Sum.inr y => nomatch y
  else none
  else some (Sum.inl (x0, x3, x5, x6, ()))) := by kernel_rfl
theorem E5_0_eq (k j : Nat) (x0 : Ty.den T22) (x3 : Ty.den T4) (x5 : Ty.den T26) (x6 : Ty.den T3) : E5_0 k (j + 1) (x0, x3, x5, x6, ()) = (
  bif decide (x6 < (↑(List.length x0) : Int)) then
  (F19 k (x0, x6, ())).bind fun y =>
    (E5_0_0 k k (x0, x3, x5, x6, y.fst.fst, 0, ())).bind fun y =>
      match y with
      | Sum.inl y =>
        (F17 k (y.fst, y.snd.snd.snd.fst, ())).bind fun y_1 =>
          (E5_0_1 k k (y.fst, y.snd.fst, y.snd.snd.fst, y.snd.snd.snd.fst, y.snd.snd.snd.snd.fst, y_1.fst.fst, 0, ())).bind fun y =>
            match y with
            | Sum.inl y => E5_0 k j (y.fst, y.snd.fst, y.snd.snd.fst, IntKind.i64.wrap (y.snd.snd.snd.fst + 1), ())
            | Sum.inr y =>
              match y with
              | Sum.inl y => some (Sum.inr (Sum.inl (y.fst, ())))
              | Sum.inr y => nomatch y
      | Sum.inr y =>
        match y with
        | Sum.inl y => some (Sum.inr (Sum.inl (y.fst, ())))
        | Sum.inr y => nomatch y
  else some (Sum.inl (x3, ()))) := by kernel_rfl
theorem F5_eq (k : Nat) (x0 : Ty.den T22) : F5 k (x0, ()) = (
(F8 k ()).bind fun y =>
  (F9 k (x0, ())).bind fun y_1 =>
    (bif !y_1.fst.fst then F13 k (x0, ()) else some ((Ty.b.dflt, ()), ())).bind fun y_2 =>
      bif bif y_1.fst.fst then true else !y_2.fst.fst then some ((y.fst.fst, ()), ())
      else
        (F10 k (x0, ())).bind fun y_3 =>
          (E5_0 k k (x0, y.fst.fst, y_3.fst.snd.fst, 0, ())).bind fun y =>
            match y with
            | Sum.inl y => some ((y.fst, ()), ())
            | Sum.inr y =>
              match y with
              | Sum.inl y => some ((y.fst, ()), ())
              | Sum.inr y => nomatch y) := by kernel_rfl
theorem E6_0_eq (k j : Nat) (x0 : Ty.den T22) (x5 : Ty.den T4) (x6 : Ty.den T22) (x11 : Ty.den T3) : E6_0 k (j + 1) (x0, x5, x6, x11, ()) = (
  bif decide (x11 < (↑(List.length x0) : Int)) then (F17 k (x0, x11, ())).bind fun y => (F17 k (x6, x11, ())).bind fun y_1 => (F14 k (y.fst.fst, y_1.fst.fst, ())).bind fun y => bif !y.fst.fst then some (Sum.inr (Sum.inl (false, ()))) else E6_0 k j (x0, x5, x6, IntKind.i64.wrap (x11 + 1), ()) else some (Sum.inl (x5, ()))) := by kernel_rfl
theorem F6_eq (k : Nat) (x0 : Ty.den T22) (x1 : Ty.den T36) : F6 k (x0, x1, ()) = (
(F8 k ()).bind fun y =>
  (F9 k (x0, ())).bind fun y_1 =>
    bif !y_1.fst.fst then
      (bif !false then F9 k ([x1], ()) else some ((Ty.b.dflt, ()), ())).bind fun y_2 =>
        bif bif bif false then true else y_2.fst.fst then true else decide ((↑(List.length x0) : Int) = 0) then some ((y.fst.fst, ()), ())
        else
          bif decide ((([] : List (Ty.den T36)).length + List.length x0) * (39 + 1) ≤ 140737488355328) then
            bif decide ((([] ++ x0).length + [x1].length) * (39 + 1) ≤ 140737488355328) then
              (F13 k ([] ++ x0 ++ [x1], ())).bind fun y_3 =>
                bif !!y_3.fst.fst then
                  (F18 k ([] ++ x0 ++ [x1], (↑(List.length x0) : Int), ())).bind fun y_4 =>
                    bif !bif false then true else decide (0 < (↑(List.length y_4.fst.fst) : Int)) then
                      (F20 k ([] ++ x0 ++ [x1], (↑(List.length x0) : Int), ())).bind fun y_5 =>
                        bif bif false then true else decide (0 < (↑(List.length y_5.fst.fst) : Int)) then some ((y.fst.fst, ()), ())
                        else
                          (F10 k (x0, ())).bind fun y_6 =>
                            (F10 k ([] ++ x0 ++ [x1], ())).bind fun y_7 =>
                              bif !decide (y_6.fst.snd.fst = y_7.fst.snd.fst) then some ((false, ()), ())
                              else
                                bif bif decide (y_6.fst.snd.fst = 0) && !!decide ((↑(List.length y_7.fst.fst) : Int) = IntKind.i64.wrap ((↑(List.length y_6.fst.fst) : Int) + 1)) then inr 0 (↑(List.length y_6.fst.fst) : Int) (List.length y_7.fst.fst) else true then
                                  (bif decide (y_6.fst.snd.fst = 0) && !!decide ((↑(List.length y_7.fst.fst) : Int) = IntKind.i64.wrap ((↑(List.length y_6.fst.fst) : Int) + 1)) then F14 k (ext 0 (↑(List.length y_6.fst.fst) : Int) y_7.fst.fst, y_6.fst.fst, ()) else some ((Ty.b.dflt, ()), ())).bind fun y_8 =>
                                    bif bif decide (y_6.fst.snd.fst = 0) && !bif !decide ((↑(List.length y_7.fst.fst) : Int) = IntKind.i64.wrap ((↑(List.length y_6.fst.fst) : Int) + 1)) then true else !y_8.fst.fst then inb (↑(List.length y_6.fst.fst) : Int) (List.length y_7.fst.fst) else true then
                                      bif bif decide (y_6.fst.snd.fst = 0) then bif bif !decide ((↑(List.length y_7.fst.fst) : Int) = IntKind.i64.wrap ((↑(List.length y_6.fst.fst) : Int) + 1)) then true else !y_8.fst.fst then true else !decide (rd (Ty.i IntKind.i64) y_7.fst.fst (↑(List.length y_6.fst.fst) : Int) = 1) else false then some ((false, ()), ())
                                      else
                                        (E6_0 k k (x0, y.fst.fst, [] ++ x0 ++ [x1], 0, ())).bind fun y =>
                                          match y with
                                          | Sum.inl y => some ((y.fst, ()), ())
                                          | Sum.inr y =>
                                            match y with
                                            | Sum.inl y => some ((y.fst, ()), ())
                                            | Sum.inr y => nomatch y
                                    else none
                                else none
                    else some ((y.fst.fst, ()), ())
                else some ((y.fst.fst, ()), ())
            else none
          else none
    else some ((y.fst.fst, ()), ())) := by kernel_rfl
theorem E7_0_eq (k j : Nat) (x0 : Ty.den T22) (x3 : Ty.den T4) (x5 : Ty.den T26) (x6 : Ty.den T4) (x7 : Ty.den T3) : E7_0 k (j + 1) (x0, x3, x5, x6, x7, ()) = (
  bif decide (x7 < (↑(List.length x0) : Int)) then bif !x6 then (F19 k (x0, x7, ())).bind fun y => (bif !false then F21 k (y.fst.fst, x7, ()) else some (((Ty.i IntKind.i64).dflt, ()), ())).bind fun y => E7_0 k j (x0, x3, x5, bif false then true else decide (0 ≤ y.fst.fst), IntKind.i64.wrap (x7 + 1), ()) else E7_0 k j (x0, x3, x5, true, IntKind.i64.wrap (x7 + 1), ()) else some (Sum.inl (x3, x5, x6, ()))) := by kernel_rfl
theorem F7_eq (k : Nat) (x0 : Ty.den T22) : F7 k (x0, ()) = (
(F8 k ()).bind fun y =>
  (F9 k (x0, ())).bind fun y_1 =>
    (bif !y_1.fst.fst then F13 k (x0, ()) else some ((Ty.b.dflt, ()), ())).bind fun y_2 =>
      bif bif y_1.fst.fst then true else !y_2.fst.fst then some ((y.fst.fst, ()), ())
      else
        (F10 k (x0, ())).bind fun y_3 =>
          (E7_0 k k (x0, y.fst.fst, y_3.fst.snd.fst, false, 0, ())).bind fun y =>
            match y with
            | Sum.inl y => some ((bif y.fst then decide (y.snd.snd.fst = decide (y.snd.fst = 161)) else false, ()), ())
            | Sum.inr y => nomatch y) := by kernel_rfl
end Go.Pv.L16
