/- The meanings of functions, laid open: written by eqs.py. -/
import Derived.Test.YtfnhnkaikpgnbaaPvL06
namespace Go.Pv.L06
open Go Go.Pv Go.Proofs
set_option linter.all false
set_option linter.constructorNameAsVariable false
set_option linter.unusedSectionVars false
set_option linter.unusedVariables false
set_option linter.unusedSimpArgs false
set_option maxRecDepth 100000
theorem F47_eq (k : Nat) (x0 : Ty.den T62) : F47 k (x0, ()) = (
  bif decide (x0.fst = 1) then some ((bif bif decide (-1099511627776 ≤ x0.snd.fst) then decide (x0.snd.fst ≤ 1099511627776) else false then decide (x0.snd.snd = { data := #[] : ByteArray }) else false, ()), ()) else bif decide (x0.fst = 3) then some ((bif bif decide (0 ≤ x0.snd.fst) then decide (x0.snd.fst ≤ 1) else false then decide (x0.snd.snd = { data := #[] : ByteArray }) else false, ()), ()) else bif decide (x0.fst = 2) then some ((bif decide (x0.snd.fst = 0) then decide ((↑(ByteArray.size x0.snd.snd) : Int) ≤ 64) else false, ()), ()) else some ((false, ()), ())) := by kernel_rfl
theorem E44_0_eq (k j : Nat) (x0 : Ty.den T9) (x6 : Ty.den T3) (x7 : Ty.den T3) : E44_0 k (j + 1) (x0, x6, x7, ()) = (
  bif decide (x7 < x6) then bif inb x7 (ByteArray.size x0) then bif bif decide (97 ≤ (↑(bt x0 x7).toNat : Int)) then decide ((↑(bt x0 x7).toNat : Int) ≤ 122) else false then E44_0 k j (x0, x6, IntKind.i64.wrap (x7 + 1), ()) else bif bif decide (0 < x7) then bif decide ((↑(bt x0 x7).toNat : Int) = 95) then true else bif decide (48 ≤ (↑(bt x0 x7).toNat : Int)) then decide ((↑(bt x0 x7).toNat : Int) ≤ 57) else false else false then E44_0 k j (x0, x6, IntKind.i64.wrap (x7 + 1), ()) else some (Sum.inr (Sum.inl (false, ()))) else none else some (Sum.inl (x0, ()))) := by kernel_rfl
theorem F44_eq (k : Nat) (x0 : Ty.den T9) : F44 k (x0, ()) = (
(E44_0 k k (x0, (↑(ByteArray.size x0) : Int), 0, ())).bind fun y =>
  match y with
  | Sum.inl y => some ((bif !decide (y.fst = { data := #[] : ByteArray }) then decide ((↑(ByteArray.size y.fst) : Int) ≤ 16) else false, ()), ())
  | Sum.inr y =>
    match y with
    | Sum.inl y => some ((y.fst, ()), ())
    | Sum.inr y => nomatch y) := by kernel_rfl
theorem F43_eq (k : Nat) (x0 : Ty.den T2) (x1 : Ty.den T2) : F43 k (x0, x1, ()) = (
  some ((bif decide (0 ≤ x0) then decide (x0 ≤ x1) else false, ()), ())) := by kernel_rfl
theorem F46_eq (k : Nat) (x0 : Ty.den T62) : F46 k (x0, ()) = (
(F47 k (x0, ())).bind fun y => some ((!y.fst.fst, ()), ())) := by kernel_rfl
theorem E50_0_eq (k j : Nat) (x0 : Ty.den T29) (x7 : Ty.den T3) (x8 : Ty.den T3) : E50_0 k (j + 1) (x0, (), x7, x8, ()) = (
  bif decide (x8 < x7) then bif inb x8 (List.length x0) then (F46 k (rd ((Ty.i IntKind.i64).p ((Ty.i IntKind.i64).p Ty.s)) x0 x8, ())).bind fun y => bif y.fst.fst then some (Sum.inr (Sum.inl (x8, ()))) else E50_0 k j (x0, (), x7, IntKind.i64.wrap (x8 + 1), ()) else none else some (Sum.inl ())) := by kernel_rfl
theorem F50_eq (k : Nat) (x0 : Ty.den T29) : F50 k (x0, (), ()) = (
(E50_0 k k (x0, (), (↑(List.length x0) : Int), 0, ())).bind fun y =>
  match y with
  | Sum.inl y => some ((-1, ()), ())
  | Sum.inr y =>
    match y with
    | Sum.inl y => some ((y.fst, ()), ())
    | Sum.inr y => nomatch y) := by kernel_rfl
theorem F45_eq (k : Nat) (x0 : Ty.den T29) : F45 k (x0, (), ()) = (
(F50 k (x0, (), ())).bind fun y => some ((decide (0 ≤ y.fst.fst), ()), ())) := by kernel_rfl
theorem F34_eq (k : Nat) (x0 : Ty.den T31) : F34 k (x0, ()) = (
(F43 k (x0.fst, 1099511627776, ())).bind fun y => (bif y.fst.fst then F43 k (x0.snd.snd.fst, 1099511627776, ()) else some ((Ty.b.dflt, ()), ())).bind fun y_1 => (bif bif y.fst.fst then y_1.fst.fst else false then F43 k (x0.snd.fst, 3, ()) else some ((Ty.b.dflt, ()), ())).bind fun y_2 => (bif bif bif y.fst.fst then y_1.fst.fst else false then y_2.fst.fst else false then F44 k (x0.snd.snd.snd.fst, ()) else some ((Ty.b.dflt, ()), ())).bind fun y_3 => (bif bif bif bif bif y.fst.fst then y_1.fst.fst else false then y_2.fst.fst else false then y_3.fst.fst else false then decide ((↑(List.length x0.snd.snd.snd.snd) : Int) ≤ 8) else false then F45 k (x0.snd.snd.snd.snd, (), ()) else some ((Ty.b.dflt, ()), ())).bind fun y_4 => some ((bif bif bif bif bif y.fst.fst then y_1.fst.fst else false then y_2.fst.fst else false then y_3.fst.fst else false then decide ((↑(List.length x0.snd.snd.snd.snd) : Int) ≤ 8) else false then !y_4.fst.fst else false, ()), ())) := by kernel_rfl
theorem E36_0_eq (k j : Nat) (x0 : Ty.den T2) (x3 : List (Ty.den T5)) : E36_0 k (j + 1) (x0, x3, ()) = (
  bif decide (127 < x0) then bif decide ((x3.length + [UInt8.ofNat (IntKind.u8.wrap (↑(BitVec.ofInt IntKind.u8.bits (IntKind.u8.wrap x0) ||| BitVec.ofInt IntKind.u8.bits 128).toNat : Int)).toNat].length) * (0 + 1) ≤ 140737488355328) then E36_0 k j (Int.fdiv x0 (2 ^ min (Int.toNat 7) IntKind.i64.bits), x3 ++ [UInt8.ofNat (IntKind.u8.wrap (↑(BitVec.ofInt IntKind.u8.bits (IntKind.u8.wrap x0) ||| BitVec.ofInt IntKind.u8.bits 128).toNat : Int)).toNat], ()) else none else some (Sum.inl (x0, x3, ()))) := by kernel_rfl
theorem F36_eq (k : Nat) (x0 : Ty.den T2) : F36 k (x0, ()) = (
(E36_0 k k (x0, [], ())).bind fun y =>
  match y with
  | Sum.inl y => bif decide ((List.length y.snd.fst + [UInt8.ofNat (IntKind.u8.wrap y.fst).toNat].length) * (0 + 1) ≤ 140737488355328) then some ((y.snd.fst ++ [UInt8.ofNat (IntKind.u8.wrap y.fst).toNat], ()), ()) else none
  | Sum.inr y => nomatch y) := by kernel_rfl
theorem E37_0_eq (k j : Nat) (x3 : List (Ty.den T5)) (x4 : Ty.den T75) : E37_0 k (j + 1) (x3, x4, ()) = (
  bif decide (127 < x4) then bif decide ((x3.length + [UInt8.ofNat (IntKind.u8.wrap (↑(BitVec.ofInt IntKind.u8.bits (IntKind.u8.wrap x4) ||| BitVec.ofInt IntKind.u8.bits 128).toNat : Int)).toNat].length) * (0 + 1) ≤ 140737488355328) then E37_0 k j (x3 ++ [UInt8.ofNat (IntKind.u8.wrap (↑(BitVec.ofInt IntKind.u8.bits (IntKind.u8.wrap x4) ||| BitVec.ofInt IntKind.u8.bits 128).toNat : Int)).toNat], Int.fdiv x4 (2 ^ min (Int.toNat 7) IntKind.u64.bits), ()) else none else some (Sum.inl (x3, x4, ()))) := by kernel_rfl
theorem F37_eq (k : Nat) (x0 : Ty.den T62) : F37 k (x0, ()) = (
(F47 k (x0, ())).bind fun y =>
  bif !y.fst.fst then some (([], ()), ())
  else
    bif decide (x0.fst = 2) then bif decide ((([UInt8.ofNat (IntKind.u8.wrap x0.fst).toNat] ++ [UInt8.ofNat (IntKind.u8.wrap (↑(ByteArray.size x0.snd.snd) : Int)).toNat]).length + x0.snd.snd.data.toList.length) * (0 + 1) ≤ 140737488355328) then some (([UInt8.ofNat (IntKind.u8.wrap x0.fst).toNat] ++ [UInt8.ofNat (IntKind.u8.wrap (↑(ByteArray.size x0.snd.snd) : Int)).toNat] ++ x0.snd.snd.data.toList, ()), ()) else none
    else
      bif decide (x0.fst = 3) then some (([UInt8.ofNat (IntKind.u8.wrap x0.fst).toNat] ++ [UInt8.ofNat (IntKind.u8.wrap x0.snd.fst).toNat], ()), ())
      else
        (E37_0 k k ([UInt8.ofNat (IntKind.u8.wrap x0.fst).toNat], IntKind.u64.wrap (IntKind.i64.wrap (↑(BitVec.ofInt IntKind.i64.bits (IntKind.i64.wrap (x0.snd.fst * 2 ^ min (Int.toNat 1) IntKind.i64.bits)) ^^^ BitVec.ofInt IntKind.i64.bits (Int.fdiv x0.snd.fst (2 ^ min (Int.toNat 63) IntKind.i64.bits))).toNat : Int)), ())).bind fun y =>
          match y with
          | Sum.inl y => bif decide ((List.length y.fst + [UInt8.ofNat (IntKind.u8.wrap y.snd.fst).toNat].length) * (0 + 1) ≤ 140737488355328) then some ((y.fst ++ [UInt8.ofNat (IntKind.u8.wrap y.snd.fst).toNat], ()), ()) else none
          | Sum.inr y => nomatch y) := by kernel_rfl
theorem E35_0_eq (k j : Nat) (x1f0 : List (Ty.den T5)) (x5 : Ty.den T45) (x6 : Ty.den T3) (x7 : Ty.den T3) : E35_0 k (j + 1) ((x1f0, ()), x5, x6, x7, ()) = (
  bif decide (x7 < x6) then bif inb x7 (List.length x5) then (F36 k (rd (Ty.i IntKind.i64) x5 x7, ())).bind fun y => bif decide ((x1f0.length + List.length y.fst.fst) * (0 + 1) ≤ 140737488355328) then E35_0 k j ((x1f0 ++ y.fst.fst, ()), x5, x6, IntKind.i64.wrap (x7 + 1), ()) else none else none else some (Sum.inl ((x1f0, ()), ()))) := by kernel_rfl
theorem F35_eq (k : Nat) (x0 : Ty.den T45) (x1f0 : List (Ty.den T5)) : F35 k (x0, (x1f0, ()), ()) = (
(E35_0 k k ((x1f0, ()), x0, (↑(List.length x0) : Int), 0, ())).bind fun y =>
  match y with
  | Sum.inl y => some ((), (y.fst.fst, ()), ())
  | Sum.inr y => nomatch y) := by kernel_rfl
theorem E25_0_eq (k j : Nat) (x3f0 : List (Ty.den T5)) (x34 : Ty.den T29) (x35 : Ty.den T3) (x36 : Ty.den T3) : E25_0 k (j + 1) ((x3f0, ()), x34, x35, x36, ()) = (
  bif decide (x36 < x35) then bif inb x36 (List.length x34) then (F37 k (rd ((Ty.i IntKind.i64).p ((Ty.i IntKind.i64).p Ty.s)) x34 x36, ())).bind fun y => bif decide ((x3f0.length + List.length y.fst.fst) * (0 + 1) ≤ 140737488355328) then E25_0 k j ((x3f0 ++ y.fst.fst, ()), x34, x35, IntKind.i64.wrap (x36 + 1), ()) else none else none else some (Sum.inl ((x3f0, ()), ()))) := by kernel_rfl
theorem F25_eq (k : Nat) (x0 : Ty.den T31) : F25 k (x0, ()) = (
(F34 k (x0, ())).bind fun y =>
  bif !y.fst.fst then some (([], ()), ())
  else
    (F35 k ([x0.fst, x0.snd.fst, x0.snd.snd.fst, (↑(ByteArray.size x0.snd.snd.snd.fst) : Int)], ([], ()), ())).bind fun y =>
      bif decide ((List.length y.snd.fst.fst + x0.snd.snd.snd.fst.data.toList.length) * (0 + 1) ≤ 140737488355328) then
        (F35 k ([(↑(List.length x0.snd.snd.snd.snd) : Int)], (y.snd.fst.fst ++ x0.snd.snd.snd.fst.data.toList, ()), ())).bind fun y =>
          (E25_0 k k ((y.snd.fst.fst, ()), x0.snd.snd.snd.snd, (↑(List.length x0.snd.snd.snd.snd) : Int), 0, ())).bind fun y =>
            match y with
            | Sum.inl y => some ((y.fst.fst, ()), ())
            | Sum.inr y => nomatch y
      else none) := by kernel_rfl
theorem F48_eq (k : Nat) (x0 : Ty.den T31) : F48 k (x0, ()) = (
  some (((FloatKind.f64.nearest x0.fst, FloatKind.f64.nearest x0.snd.fst), ()), ())) := by kernel_rfl
theorem F38_eq (k : Nat) (x0 : Ty.den T31) (x1 : Ty.den T31) : F38 k (x0, x1, ()) = (
(F48 k (x0, ())).bind fun y => (F48 k (x1, ())).bind fun y_1 => bif bif bif cEq y.fst.fst.fst y.fst.fst.snd y_1.fst.fst.fst y_1.fst.fst.snd then decide (x0.fst = x1.fst) else false then decide (x0.snd.fst = x1.snd.fst) else false then some ((decide (x0.snd.snd.fst < x1.snd.snd.fst), ()), ()) else bif !decide (x0.fst = x1.fst) then some ((decide (x0.fst < x1.fst), ()), ()) else some ((decide (x0.snd.fst < x1.snd.fst), ()), ())) := by kernel_rfl
theorem F27_eq (k : Nat) (x0 : Ty.den T31) (x1 : Ty.den T31) : F27 k (x0, x1, ()) = (
(F38 k (x0, x1, ())).bind fun y => bif y.fst.fst then some ((-1, ()), ()) else (F38 k (x1, x0, ())).bind fun y => bif y.fst.fst then some ((1, ()), ()) else some ((0, ()), ())) := by kernel_rfl
theorem E26_0_eq (k j : Nat) (x0 : Ty.den T34) (x4f0 : Ty.den T31) (x8 : Ty.den T3) (x9 : Ty.den T3) (x10 : Ty.den T3) : E26_0 k (j + 1) (x0, (), (x4f0, ()), x8, x9, x10, ()) = (
  bif decide (x9 < x10) then bif inb (IntKind.i64.wrap ((IntKind.u64.wrap (IntKind.i64.wrap (x9 + x10))).fdiv (2 ^ min (Int.toNat 1) IntKind.u64.bits))) (List.length x0) then (F27 k (rd ((Ty.i IntKind.i64).p ((Ty.i IntKind.i64).p ((Ty.i IntKind.i64).p (Ty.s.p ((Ty.i IntKind.i64).p ((Ty.i IntKind.i64).p Ty.s)).l)))) x0 (IntKind.i64.wrap ((IntKind.u64.wrap (IntKind.i64.wrap (x9 + x10))).fdiv (2 ^ min (Int.toNat 1) IntKind.u64.bits))), x4f0, ())).bind fun y => bif decide (y.fst.fst < 0) then E26_0 k j (x0, (), (x4f0, ()), x8, IntKind.i64.wrap (IntKind.i64.wrap ((IntKind.u64.wrap (IntKind.i64.wrap (x9 + x10))).fdiv (2 ^ min (Int.toNat 1) IntKind.u64.bits)) + 1), x10, ()) else E26_0 k j (x0, (), (x4f0, ()), x8, x9, IntKind.i64.wrap ((IntKind.u64.wrap (IntKind.i64.wrap (x9 + x10))).fdiv (2 ^ min (Int.toNat 1) IntKind.u64.bits)), ()) else none else some (Sum.inl (x0, (), (x4f0, ()), x8, x9, ()))) := by kernel_rfl
theorem F26_eq (k : Nat) (x0 : Ty.den T34) (x1 : Ty.den T31) : F26 k (x0, x1, (), ()) = (
(E26_0 k k (x0, (), (x1, ()), (↑(List.length x0) : Int), 0, (↑(List.length x0) : Int), ())).bind fun y =>
  match y with
  | Sum.inl y => bif bif decide (y.snd.snd.snd.snd.fst < y.snd.snd.snd.fst) then inb y.snd.snd.snd.snd.fst (List.length y.fst) else true then bif decide (y.snd.snd.snd.snd.fst < y.snd.snd.snd.fst) then (F27 k (rd ((Ty.i IntKind.i64).p ((Ty.i IntKind.i64).p ((Ty.i IntKind.i64).p (Ty.s.p ((Ty.i IntKind.i64).p ((Ty.i IntKind.i64).p Ty.s)).l)))) y.fst y.snd.snd.snd.snd.fst, y.snd.snd.fst.fst, ())).bind fun y_1 => some ((y.snd.snd.snd.snd.fst, bif true then decide (y_1.fst.fst = 0) else false, ()), ()) else some ((y.snd.snd.snd.snd.fst, false, ()), ()) else none
  | Sum.inr y => nomatch y) := by kernel_rfl
theorem F9_eq (k : Nat) : F9 k (()) = (
  some ((([], -1, ()), ()), ())) := by kernel_rfl
theorem F15_eq (k : Nat) (x0f0 : List (Ty.den T31)) (x0f1 : Ty.den T2) (x1 : Ty.den T31) : F15 k ((x0f0, x0f1, ()), x1, ()) = (
(F25 k (x1, ())).bind fun y => bif decide ((↑(List.length y.fst.fst) : Int) = 0) then some ((1, ()), (x0f0, x0f1, ()), ()) else (F26 k (x0f0, x1, (), ())).bind fun y => bif decide (x1.fst ≤ x0f1) then some ((61, ()), (x0f0, x0f1, ()), ()) else bif y.fst.snd.fst then some ((151, ()), (x0f0, x0f1, ()), ()) else bif decide ((↑x0f0.length : Int) = 256) then some ((2, ()), (x0f0, x0f1, ()), ()) else (F28 k (x1.snd.snd.snd.snd, ())).bind fun y_1 => (F29 k (x0f0, y.fst.fst, [(x1.fst, x1.snd.fst, x1.snd.snd.fst, x1.snd.snd.snd.fst, y_1.fst.fst)], ())).bind fun y => some ((0, ()), (y.fst.fst, x0f1, ()), ())) := by kernel_rfl
theorem F17_eq (k : Nat) (x0f0 : List (Ty.den T31)) (x0f1 : Ty.den T2) : F17 k ((x0f0, x0f1, ()), ()) = (
  some ((x0f1, ()), (x0f0, x0f1, ()), ())) := by kernel_rfl
theorem F19_eq (k : Nat) (x0f0 : List (Ty.den T31)) (x0f1 : Ty.den T2) : F19 k ((x0f0, x0f1, ()), ()) = (
(F24 k (x0f0, ())).bind fun y => some ((y.fst.fst, ()), (y.snd.fst, x0f1, ()), ())) := by kernel_rfl
theorem F42_eq (k : Nat) (x0 : Ty.den T62) : F42 k (x0, ()) = (
  bif decide (x0.fst = 1) then some ((bif bif decide (-1099511627776 ≤ x0.snd.fst) then decide (x0.snd.fst ≤ 1099511627776) else false then decide (x0.snd.snd = { data := #[] : ByteArray }) else false, ()), ()) else bif decide (x0.fst = 2) then some ((bif decide (x0.snd.fst = 0) then decide ((↑(ByteArray.size x0.snd.snd) : Int) ≤ 64) else false, ()), ()) else bif decide (x0.fst = 3) then some ((bif bif decide (0 ≤ x0.snd.fst) then decide (x0.snd.fst ≤ 1) else false then decide (x0.snd.snd = { data := #[] : ByteArray }) else false, ()), ()) else some ((false, ()), ())) := by kernel_rfl
theorem E41_0_eq (k j : Nat) (x0 : Ty.den T9) (x3 : Ty.den T3) : E41_0 k (j + 1) (x0, x3, ()) = (
  bif decide (x3 < (↑(ByteArray.size x0) : Int)) then bif inb x3 (ByteArray.size x0) then bif bif !bif decide (97 ≤ (↑(bt x0 x3).toNat : Int)) then decide ((↑(bt x0 x3).toNat : Int) ≤ 122) else false then bif decide (x3 = 0) then true else bif !decide ((↑(bt x0 x3).toNat : Int) = 95) then bif decide ((↑(bt x0 x3).toNat : Int) < 48) then true else decide (57 < (↑(bt x0 x3).toNat : Int)) else false else false then some (Sum.inr (Sum.inl (false, ()))) else E41_0 k j (x0, IntKind.i64.wrap (x3 + 1), ()) else none else some (Sum.inl (x0, ()))) := by kernel_rfl
theorem F41_eq (k : Nat) (x0 : Ty.den T9) : F41 k (x0, ()) = (
(E41_0 k k (x0, 0, ())).bind fun y =>
  match y with
  | Sum.inl y => some ((bif decide (1 ≤ (↑(ByteArray.size y.fst) : Int)) then decide ((↑(ByteArray.size y.fst) : Int) ≤ 16) else false, ()), ())
  | Sum.inr y =>
    match y with
    | Sum.inl y => some ((y.fst, ()), ())
    | Sum.inr y => nomatch y) := by kernel_rfl
theorem E30_0_eq (k j : Nat) (x1f0 : Ty.den T31) (x3 : Ty.den T3) : E30_0 k (j + 1) ((x1f0, ()), x3, ()) = (
  bif decide (x3 < (↑(List.length x1f0.snd.snd.snd.snd) : Int)) then bif inb x3 (List.length x1f0.snd.snd.snd.snd) then (F42 k (rd ((Ty.i IntKind.i64).p ((Ty.i IntKind.i64).p Ty.s)) x1f0.snd.snd.snd.snd x3, ())).bind fun y => bif !y.fst.fst then some (Sum.inr (Sum.inl (false, ()))) else E30_0 k j ((x1f0, ()), IntKind.i64.wrap (x3 + 1), ()) else none else some (Sum.inl ((x1f0, ()), ()))) := by kernel_rfl
theorem F30_eq (k : Nat) (x0 : Ty.den T31) : F30 k (x0, ()) = (
  let t0 : Bool := (bif bif bif bif bif decide (x0.fst < 0) then true else decide (1099511627776 < x0.fst) then true else decide (x0.snd.snd.fst < 0) then true else decide (1099511627776 < x0.snd.snd.fst) then true else decide (x0.snd.fst < 0) then true else decide (3 < x0.snd.fst));
(bif !t0 then F41 k (x0.snd.snd.snd.fst, ()) else some ((Ty.b.dflt, ()), ())).bind fun y =>
  bif bif t0 then true else !y.fst.fst then some ((false, ()), ())
  else
    (E30_0 k k ((x0, ()), 0, ())).bind fun y =>
      match y with
      | Sum.inl y => some ((decide ((↑(List.length y.fst.fst.snd.snd.snd.snd) : Int) ≤ 8), ()), ())
      | Sum.inr y =>
        match y with
        | Sum.inl y => some ((y.fst, ()), ())
        | Sum.inr y => nomatch y) := by kernel_rfl
theorem F20_eq (k : Nat) (x0 : Ty.den T31) (x1 : Ty.den T31) : F20 k (x0, x1, ()) = (
  bif !decide (x0.fst = x1.fst) then some ((decide (x0.fst < x1.fst), ()), ()) else bif !decide (x0.snd.fst = x1.snd.fst) then some ((decide (x0.snd.fst < x1.snd.fst), ()), ()) else some ((decide (x0.snd.snd.fst < x1.snd.snd.fst), ()), ())) := by kernel_rfl
theorem E32_0_eq (k j : Nat) (x0 : Ty.den T29) (x1 : Ty.den T29) (x5 : Ty.den T3) : E32_0 k (j + 1) (x0, x1, x5, ()) = (
  bif decide (x5 < (↑(List.length x0) : Int)) then bif inb x5 (List.length x0) then bif inb x5 (List.length x1) then bif !(decide ((rd ((Ty.i IntKind.i64).p ((Ty.i IntKind.i64).p Ty.s)) x0 x5).fst = (rd ((Ty.i IntKind.i64).p ((Ty.i IntKind.i64).p Ty.s)) x1 x5).fst) && (decide ((rd ((Ty.i IntKind.i64).p ((Ty.i IntKind.i64).p Ty.s)) x0 x5).snd.fst = (rd ((Ty.i IntKind.i64).p ((Ty.i IntKind.i64).p Ty.s)) x1 x5).snd.fst) && (decide ((rd ((Ty.i IntKind.i64).p ((Ty.i IntKind.i64).p Ty.s)) x0 x5).snd.snd = (rd ((Ty.i IntKind.i64).p ((Ty.i IntKind.i64).p Ty.s)) x1 x5).snd.snd) && true))) then some (Sum.inr (Sum.inl (false, ()))) else E32_0 k j (x0, x1, IntKind.i64.wrap (x5 + 1), ()) else none else none else some (Sum.inl ())) := by kernel_rfl
theorem F32_eq (k : Nat) (x0 : Ty.den T29) (x1 : Ty.den T29) : F32 k (x0, x1, ()) = (
  bif !decide ((↑(List.length x0) : Int) = (↑(List.length x1) : Int)) then some ((false, ()), ())
  else
  (E32_0 k k (x0, x1, 0, ())).bind fun y =>
    match y with
    | Sum.inl y => some ((true, ()), ())
    | Sum.inr y =>
      match y with
      | Sum.inl y => some ((y.fst, ()), ())
      | Sum.inr y => nomatch y) := by kernel_rfl
theorem F21_eq (k : Nat) (x0 : Ty.den T31) (x1 : Ty.den T31) : F21 k (x0, x1, ()) = (
  let t0 : Bool := (bif bif bif decide (x0.fst = x1.fst) then decide (x0.snd.fst = x1.snd.fst) else false then decide (x0.snd.snd.fst = x1.snd.snd.fst) else false then decide (x0.snd.snd.snd.fst = x1.snd.snd.snd.fst) else false);
(bif t0 then F32 k (x0.snd.snd.snd.snd, x1.snd.snd.snd.snd, ()) else some ((Ty.b.dflt, ()), ())).bind fun y => some ((bif t0 then y.fst.fst else false, ()), ())) := by kernel_rfl
theorem E14_0_eq (k j : Nat) (x0 : Ty.den T34) (x1 : Ty.den T34) (x5 : Ty.den T3) : E14_0 k (j + 1) (x0, x1, x5, ()) = (
  bif decide (x5 < (↑(List.length x0) : Int)) then bif inb x5 (List.length x0) then bif inb x5 (List.length x1) then (F21 k (rd ((Ty.i IntKind.i64).p ((Ty.i IntKind.i64).p ((Ty.i IntKind.i64).p (Ty.s.p ((Ty.i IntKind.i64).p ((Ty.i IntKind.i64).p Ty.s)).l)))) x0 x5, rd ((Ty.i IntKind.i64).p ((Ty.i IntKind.i64).p ((Ty.i IntKind.i64).p (Ty.s.p ((Ty.i IntKind.i64).p ((Ty.i IntKind.i64).p Ty.s)).l)))) x1 x5, ())).bind fun y => bif !y.fst.fst then some (Sum.inr (Sum.inl (false, ()))) else E14_0 k j (x0, x1, IntKind.i64.wrap (x5 + 1), ()) else none else none else some (Sum.inl ())) := by kernel_rfl
theorem F14_eq (k : Nat) (x0 : Ty.den T34) (x1 : Ty.den T34) : F14 k (x0, x1, ()) = (
  bif !decide ((↑(List.length x0) : Int) = (↑(List.length x1) : Int)) then some ((false, ()), ())
  else
  (E14_0 k k (x0, x1, 0, ())).bind fun y =>
    match y with
    | Sum.inl y => some ((true, ()), ())
    | Sum.inr y =>
      match y with
      | Sum.inl y => some ((y.fst, ()), ())
      | Sum.inr y => nomatch y) := by kernel_rfl
theorem F10_eq (k : Nat) : F10 k (()) = (
  some ((([], 0, ()), ()), ())) := by kernel_rfl
theorem E31_0_eq (k j : Nat) (x0 : Ty.den T34) (x3f0 : Ty.den T31) (x5 : List (Ty.den T31)) (x6 : Ty.den T4) (x7 : Ty.den T3) : E31_0 k (j + 1) (x0, (x3f0, ()), x5, x6, x7, ()) = (
  bif decide (x7 < (↑(List.length x0) : Int)) then bif bif !x6 then inb x7 (List.length x0) else true then (bif !x6 then F20 k (x3f0, rd ((Ty.i IntKind.i64).p ((Ty.i IntKind.i64).p ((Ty.i IntKind.i64).p (Ty.s.p ((Ty.i IntKind.i64).p ((Ty.i IntKind.i64).p Ty.s)).l)))) x0 x7, ()) else some ((Ty.b.dflt, ()), ())).bind fun y => bif bif !x6 then y.fst.fst else false then bif decide ((x5.length + [x3f0].length) * (63 + 1) ≤ 140737488355328) then bif inb x7 (List.length x0) then bif decide (((x5 ++ [x3f0]).length + [rd ((Ty.i IntKind.i64).p ((Ty.i IntKind.i64).p ((Ty.i IntKind.i64).p (Ty.s.p ((Ty.i IntKind.i64).p ((Ty.i IntKind.i64).p Ty.s)).l)))) x0 x7].length) * (63 + 1) ≤ 140737488355328) then E31_0 k j (x0, (x3f0, ()), x5 ++ [x3f0] ++ [rd ((Ty.i IntKind.i64).p ((Ty.i IntKind.i64).p ((Ty.i IntKind.i64).p (Ty.s.p ((Ty.i IntKind.i64).p ((Ty.i IntKind.i64).p Ty.s)).l)))) x0 x7], true, IntKind.i64.wrap (x7 + 1), ()) else none else none else none else bif inb x7 (List.length x0) then bif decide ((x5.length + [rd ((Ty.i IntKind.i64).p ((Ty.i IntKind.i64).p ((Ty.i IntKind.i64).p (Ty.s.p ((Ty.i IntKind.i64).p ((Ty.i IntKind.i64).p Ty.s)).l)))) x0 x7].length) * (63 + 1) ≤ 140737488355328) then E31_0 k j (x0, (x3f0, ()), x5 ++ [rd ((Ty.i IntKind.i64).p ((Ty.i IntKind.i64).p ((Ty.i IntKind.i64).p (Ty.s.p ((Ty.i IntKind.i64).p ((Ty.i IntKind.i64).p Ty.s)).l)))) x0 x7], x6, IntKind.i64.wrap (x7 + 1), ()) else none else none else none else some (Sum.inl ((x3f0, ()), x5, x6, ()))) := by kernel_rfl
theorem F31_eq (k : Nat) (x0 : Ty.den T34) (x1 : Ty.den T31) : F31 k (x0, x1, ()) = (
(E31_0 k k (x0, (x1, ()), [], false, 0, ())).bind fun y =>
  match y with
  | Sum.inl y => bif !y.snd.snd.fst then bif decide ((List.length y.snd.fst + [y.fst.fst].length) * (63 + 1) ≤ 140737488355328) then some ((y.snd.fst ++ [y.fst.fst], ()), ()) else none else some ((y.snd.fst, ()), ())
  | Sum.inr y => nomatch y) := by kernel_rfl
theorem E16_0_eq (k j : Nat) (x0f0 : Ty.den T34) (x0f1 : Ty.den T2) (x3f0 : Ty.den T31) (x5 : Ty.den T3) : E16_0 k (j + 1) ((x0f0, x0f1, ()), (x3f0, ()), x5, ()) = (
  bif decide (x5 < (↑(List.length x0f0) : Int)) then bif inb x5 (List.length x0f0) then (F20 k (x3f0, rd ((Ty.i IntKind.i64).p ((Ty.i IntKind.i64).p ((Ty.i IntKind.i64).p (Ty.s.p ((Ty.i IntKind.i64).p ((Ty.i IntKind.i64).p Ty.s)).l)))) x0f0 x5, ())).bind fun y => bif bif !y.fst.fst then inb x5 (List.length x0f0) else true then (bif !y.fst.fst then F20 k (rd ((Ty.i IntKind.i64).p ((Ty.i IntKind.i64).p ((Ty.i IntKind.i64).p (Ty.s.p ((Ty.i IntKind.i64).p ((Ty.i IntKind.i64).p Ty.s)).l)))) x0f0 x5, x3f0, ()) else some ((Ty.b.dflt, ()), ())).bind fun y_1 => bif bif !y.fst.fst then !y_1.fst.fst else false then some (Sum.inr (Sum.inl ((x0f0, x0f1, ()), 151, ()))) else E16_0 k j ((x0f0, x0f1, ()), (x3f0, ()), IntKind.i64.wrap (x5 + 1), ()) else none else none else some (Sum.inl ((x0f0, x0f1, ()), (x3f0, ()), ()))) := by kernel_rfl
theorem F16_eq (k : Nat) (x0f0 : Ty.den T34) (x0f1 : Ty.den T2) (x1 : Ty.den T31) : F16 k ((x0f0, x0f1, ()), x1, ()) = (
(F30 k (x1, ())).bind fun y =>
  bif !y.fst.fst then some ((1, ()), (x0f0, x0f1, ()), ())
  else
    bif decide (x1.fst < x0f1) then some ((61, ()), (x0f0, x0f1, ()), ())
    else
      (E16_0 k k ((x0f0, x0f1, ()), (x1, ()), 0, ())).bind fun y =>
        match y with
        | Sum.inl y => bif decide (256 ≤ (↑(List.length y.fst.fst) : Int)) then some ((2, ()), (y.fst.fst, y.fst.snd.fst, ()), ()) else (F31 k (y.fst.fst, y.snd.fst.fst, ())).bind fun y_1 => some ((0, ()), (y_1.fst.fst, y.fst.snd.fst, ()), ())
        | Sum.inr y =>
          match y with
          | Sum.inl y => some ((y.snd.fst, ()), (y.fst.fst, y.fst.snd.fst, ()), ())
          | Sum.inr y => nomatch y) := by kernel_rfl
theorem E13_0_eq (k j : Nat) (x0f0 : Ty.den T34) (x0f1 : Ty.den T2) (x1 : Ty.den T2) (x6 : List (Ty.den T31)) (x7 : List (Ty.den T31)) (x8 : Ty.den T3) : E13_0 k (j + 1) ((x0f0, x0f1, ()), x1, x6, x7, x8, ()) = (
  bif decide (x8 < (↑(List.length x0f0) : Int)) then bif inb x8 (List.length x0f0) then bif decide ((rd ((Ty.i IntKind.i64).p ((Ty.i IntKind.i64).p ((Ty.i IntKind.i64).p (Ty.s.p ((Ty.i IntKind.i64).p ((Ty.i IntKind.i64).p Ty.s)).l)))) x0f0 x8).fst ≤ x1) then bif inb x8 (List.length x0f0) then bif decide ((x6.length + [rd ((Ty.i IntKind.i64).p ((Ty.i IntKind.i64).p ((Ty.i IntKind.i64).p (Ty.s.p ((Ty.i IntKind.i64).p ((Ty.i IntKind.i64).p Ty.s)).l)))) x0f0 x8].length) * (63 + 1) ≤ 140737488355328) then E13_0 k j ((x0f0, x0f1, ()), x1, x6 ++ [rd ((Ty.i IntKind.i64).p ((Ty.i IntKind.i64).p ((Ty.i IntKind.i64).p (Ty.s.p ((Ty.i IntKind.i64).p ((Ty.i IntKind.i64).p Ty.s)).l)))) x0f0 x8], x7, IntKind.i64.wrap (x8 + 1), ()) else none else none else bif inb x8 (List.length x0f0) then bif decide ((x7.length + [rd ((Ty.i IntKind.i64).p ((Ty.i IntKind.i64).p ((Ty.i IntKind.i64).p (Ty.s.p ((Ty.i IntKind.i64).p ((Ty.i IntKind.i64).p Ty.s)).l)))) x0f0 x8].length) * (63 + 1) ≤ 140737488355328) then E13_0 k j ((x0f0, x0f1, ()), x1, x6, x7 ++ [rd ((Ty.i IntKind.i64).p ((Ty.i IntKind.i64).p ((Ty.i IntKind.i64).p (Ty.s.p ((Ty.i IntKind.i64).p ((Ty.i IntKind.i64).p Ty.s)).l)))) x0f0 x8], IntKind.i64.wrap (x8 + 1), ()) else none else none else none else some (Sum.inl ((x0f0, x0f1, ()), x1, x6, x7, ()))) := by kernel_rfl
theorem F13_eq (k : Nat) (x0f0 : Ty.den T34) (x0f1 : Ty.den T2) (x1 : Ty.den T2) : F13 k ((x0f0, x0f1, ()), x1, ()) = ((
  bif bif decide (x1 < 0) then true else decide (1099511627776 < x1) then some (([], 1, ()), (x0f0, x0f1, ()), ())
  else
  bif decide (IntKind.i64.wrap (x1 + 1) < x0f1) then some (([], 61, ()), (x0f0, x0f1, ()), ())
  else
    (E13_0 k k ((x0f0, x0f1, ()), x1, [], [], 0, ())).bind fun y =>
      match y with
      | Sum.inl y => some ((y.snd.snd.fst, 0, ()), (y.snd.snd.snd.fst, IntKind.i64.wrap (y.snd.fst + 1), ()), ())
      | Sum.inr y => nomatch y) : Option (shsDen O13 × shsDen (shsUpd I13))) := by kernel_rfl
theorem F18_eq (k : Nat) (x0f0 : Ty.den T34) (x0f1 : Ty.den T2) : F18 k ((x0f0, x0f1, ()), ()) = (
  some ((IntKind.i64.wrap (x0f1 - 1), ()), (x0f0, x0f1, ()), ())) := by kernel_rfl
theorem E22_0_eq (k j : Nat) (x1f0 : Ty.den T31) (x3 : Ty.den T3) (x4 : Ty.den T3) : E22_0 k (j + 1) ((x1f0, ()), x3, x4, ()) = (
  bif bif decide (x4 < (↑(List.length x1f0.snd.snd.snd.snd) : Int)) then decide (x3 < 9000) else false then bif inb x4 (List.length x1f0.snd.snd.snd.snd) then E22_0 k j ((x1f0, ()), IntKind.i64.wrap (x3 + bif false then bif decide ((↑(ByteArray.size (rd ((Ty.i IntKind.i64).p ((Ty.i IntKind.i64).p Ty.s)) x1f0.snd.snd.snd.snd x4).snd.snd) : Int) < 9000) then 9000 else (↑(ByteArray.size (rd ((Ty.i IntKind.i64).p ((Ty.i IntKind.i64).p Ty.s)) x1f0.snd.snd.snd.snd x4).snd.snd) : Int) else bif decide (9000 < (↑(ByteArray.size (rd ((Ty.i IntKind.i64).p ((Ty.i IntKind.i64).p Ty.s)) x1f0.snd.snd.snd.snd x4).snd.snd) : Int)) then 9000 else (↑(ByteArray.size (rd ((Ty.i IntKind.i64).p ((Ty.i IntKind.i64).p Ty.s)) x1f0.snd.snd.snd.snd x4).snd.snd) : Int)), IntKind.i64.wrap (x4 + 1), ()) else none else some (Sum.inl (x3, ()))) := by kernel_rfl
theorem F22_eq (k : Nat) (x0 : Ty.den T31) : F22 k (x0, ()) = (
(E22_0 k k ((x0, ()), IntKind.i64.wrap ((↑(ByteArray.size x0.snd.snd.snd.fst) : Int) + (↑(List.length x0.snd.snd.snd.snd) : Int)), 0, ())).bind fun y =>
  match y with
  | Sum.inl y => some ((decide (9000 ≤ y.fst), ()), ())
  | Sum.inr y => nomatch y) := by kernel_rfl
theorem E11_0_eq (k j : Nat) (x0 : Ty.den T22) (x3 : Ty.den T3) : E11_0 k (j + 1) (x0, x3, ()) = (
  bif bif decide (x3 < (↑(List.length x0) : Int)) then decide (x3 < 700) else false then bif inb x3 (List.length x0) then (F22 k ((rd ((Ty.i IntKind.i64).p (((Ty.i IntKind.i64).p ((Ty.i IntKind.i64).p ((Ty.i IntKind.i64).p (Ty.s.p ((Ty.i IntKind.i64).p ((Ty.i IntKind.i64).p Ty.s)).l)))).p (Ty.i IntKind.i64))) x0 x3).snd.fst, ())).bind fun y => bif bif !y.fst.fst then inb x3 (List.length x0) else true then bif bif !y.fst.fst then inb x3 (List.length x0) else true then bif bif y.fst.fst then true else decide (400 < IntKind.i64.wrap ((↑(ByteArray.size (rd ((Ty.i IntKind.i64).p (((Ty.i IntKind.i64).p ((Ty.i IntKind.i64).p ((Ty.i IntKind.i64).p (Ty.s.p ((Ty.i IntKind.i64).p ((Ty.i IntKind.i64).p Ty.s)).l)))).p (Ty.i IntKind.i64))) x0 x3).snd.fst.snd.snd.snd.fst) : Int) + (↑(List.length (rd ((Ty.i IntKind.i64).p (((Ty.i IntKind.i64).p ((Ty.i IntKind.i64).p ((Ty.i IntKind.i64).p (Ty.s.p ((Ty.i IntKind.i64).p ((Ty.i IntKind.i64).p Ty.s)).l)))).p (Ty.i IntKind.i64))) x0 x3).snd.fst.snd.snd.snd.snd) : Int))) then some (Sum.inr (Sum.inl (true, ()))) else E11_0 k j (x0, IntKind.i64.wrap (x3 + 1), ()) else none else none else none else some (Sum.inl (x0, ()))) := by kernel_rfl
theorem F11_eq (k : Nat) (x0 : Ty.den T22) : F11 k (x0, ()) = (
(E11_0 k k (x0, 0, ())).bind fun y =>
  match y with
  | Sum.inl y => some ((decide (600 < (↑(List.length y.fst) : Int)), ()), ())
  | Sum.inr y =>
    match y with
    | Sum.inl y => some ((y.fst, ()), ())
    | Sum.inr y => nomatch y) := by kernel_rfl
theorem F8_eq (k : Nat) : F8 k (()) = (
(F9 k ()).bind fun y => (F15 k ((y.fst.fst.fst, y.fst.fst.snd.fst, ()), (3, 0, 0, { data := #[97] : ByteArray }, []), ())).bind fun y => (F15 k ((y.snd.fst.fst, y.snd.fst.snd.fst, ()), (1, 0, 0, { data := #[97] : ByteArray }, []), ())).bind fun y_1 => (F15 k ((y_1.snd.fst.fst, y_1.snd.fst.snd.fst, ()), (1, 0, 0, { data := #[98] : ByteArray }, []), ())).bind fun y_2 => (F12 k ((y_2.snd.fst.fst, y_2.snd.fst.snd.fst, ()), 2, ())).bind fun y_3 => (F15 k ((y_3.snd.fst.fst, y_3.snd.fst.snd.fst, ()), (2, 0, 0, { data := #[97] : ByteArray }, []), ())).bind fun y_4 => (F12 k ((y_4.snd.fst.fst, y_4.snd.fst.snd.fst, ()), 1, ())).bind fun y_5 => bif bif bif bif bif decide (y.fst.fst = 0) then decide (y_1.fst.fst = 0) else false then decide (y_2.fst.fst = 151) else false then decide ((↑(List.length y_3.fst.fst) : Int) = 1) else false then inb 0 (List.length y_3.fst.fst) else true then bif bif bif bif bif bif bif bif decide (y.fst.fst = 0) then decide (y_1.fst.fst = 0) else false then decide (y_2.fst.fst = 151) else false then decide ((↑(List.length y_3.fst.fst) : Int) = 1) else false then decide ((rd ((Ty.i IntKind.i64).p ((Ty.i IntKind.i64).p ((Ty.i IntKind.i64).p (Ty.s.p ((Ty.i IntKind.i64).p ((Ty.i IntKind.i64).p Ty.s)).l)))) y_3.fst.fst 0).fst = 1) else false then decide (y_3.fst.snd.fst = 0) else false then decide (y_4.fst.fst = 61) else false then decide (y_5.fst.snd.fst = 61) else false then (F17 k ((y_5.snd.fst.fst, y_5.snd.fst.snd.fst, ()), ())).bind fun y => bif bif true then decide (y.fst.fst = 2) else false then (F19 k ((y.snd.fst.fst, y.snd.fst.snd.fst, ()), ())).bind fun y => some ((bif true then decide ((↑(List.length y.fst.fst) : Int) = 1) else false, ()), ()) else some ((false, ()), ()) else some ((false, ()), ()) else none) := by kernel_rfl
theorem E3_0_eq (k j : Nat) (x0 : Ty.den T22) (x3 : Ty.den T4) (x4f0 : List (Ty.den T31)) (x4f1 : Ty.den T2) (x5f0 : Ty.den T34) (x5f1 : Ty.den T2) (x6 : Ty.den T3) : E3_0 k (j + 1) (x0, x3, (x4f0, x4f1, ()), (x5f0, x5f1, ()), x6, ()) = (
  bif decide (x6 < (↑(List.length x0) : Int)) then bif inb x6 (List.length x0) then bif decide ((rd ((Ty.i IntKind.i64).p (((Ty.i IntKind.i64).p ((Ty.i IntKind.i64).p ((Ty.i IntKind.i64).p (Ty.s.p ((Ty.i IntKind.i64).p ((Ty.i IntKind.i64).p Ty.s)).l)))).p (Ty.i IntKind.i64))) x0 x6).fst = 3) then bif inb x6 (List.length x0) then (F12 k ((x4f0, x4f1, ()), (rd ((Ty.i IntKind.i64).p (((Ty.i IntKind.i64).p ((Ty.i IntKind.i64).p ((Ty.i IntKind.i64).p (Ty.s.p ((Ty.i IntKind.i64).p ((Ty.i IntKind.i64).p Ty.s)).l)))).p (Ty.i IntKind.i64))) x0 x6).snd.snd, ())).bind fun y => bif inb x6 (List.length x0) then (F13 k ((x5f0, x5f1, ()), (rd ((Ty.i IntKind.i64).p (((Ty.i IntKind.i64).p ((Ty.i IntKind.i64).p ((Ty.i IntKind.i64).p (Ty.s.p ((Ty.i IntKind.i64).p ((Ty.i IntKind.i64).p Ty.s)).l)))).p (Ty.i IntKind.i64))) x0 x6).snd.snd, ())).bind fun y_1 => (bif !!decide (y.fst.snd.fst = y_1.fst.snd.fst) then F14 k (y.fst.fst, y_1.fst.fst, ()) else some ((Ty.b.dflt, ()), ())).bind fun y_2 => bif bif !decide (y.fst.snd.fst = y_1.fst.snd.fst) then true else !y_2.fst.fst then some (Sum.inr (Sum.inl (false, ()))) else (F17 k ((y.snd.fst.fst, y.snd.fst.snd.fst, ()), ())).bind fun y => (F18 k ((y_1.snd.fst.fst, y_1.snd.fst.snd.fst, ()), ())).bind fun y_3 => bif !decide (y.fst.fst = y_3.fst.fst) then some (Sum.inr (Sum.inl (false, ()))) else E3_0 k j (x0, x3, (y.snd.fst.fst, y.snd.fst.snd.fst, ()), (y_3.snd.fst.fst, y_3.snd.fst.snd.fst, ()), IntKind.i64.wrap (x6 + 1), ()) else none else none else bif inb x6 (List.length x0) then (F15 k ((x4f0, x4f1, ()), (rd ((Ty.i IntKind.i64).p (((Ty.i IntKind.i64).p ((Ty.i IntKind.i64).p ((Ty.i IntKind.i64).p (Ty.s.p ((Ty.i IntKind.i64).p ((Ty.i IntKind.i64).p Ty.s)).l)))).p (Ty.i IntKind.i64))) x0 x6).snd.fst, ())).bind fun y => bif inb x6 (List.length x0) then (F16 k ((x5f0, x5f1, ()), (rd ((Ty.i IntKind.i64).p (((Ty.i IntKind.i64).p ((Ty.i IntKind.i64).p ((Ty.i IntKind.i64).p (Ty.s.p ((Ty.i IntKind.i64).p ((Ty.i IntKind.i64).p Ty.s)).l)))).p (Ty.i IntKind.i64))) x0 x6).snd.fst, ())).bind fun y_1 => bif !decide (y.fst.fst = y_1.fst.fst) then some (Sum.inr (Sum.inl (false, ()))) else (F17 k ((y.snd.fst.fst, y.snd.fst.snd.fst, ()), ())).bind fun y => (F18 k ((y_1.snd.fst.fst, y_1.snd.fst.snd.fst, ()), ())).bind fun y_2 => bif !decide (y.fst.fst = y_2.fst.fst) then some (Sum.inr (Sum.inl (false, ()))) else E3_0 k j (x0, x3, (y.snd.fst.fst, y.snd.fst.snd.fst, ()), (y_2.snd.fst.fst, y_2.snd.fst.snd.fst, ()), IntKind.i64.wrap (x6 + 1), ()) else none else none else none else some (Sum.inl (x3, (x4f0, x4f1, ()), (x5f0, x5f1, ()), ()))) := by kernel_rfl
theorem F3_eq (k : Nat) (x0 : Ty.den T22) : F3 k (x0, ()) = (
(F8 k ()).bind fun y =>
  (F9 k ()).bind fun y_1 =>
    (F10 k ()).bind fun y_2 =>
      (bif !false then F11 k (x0, ()) else some ((Ty.b.dflt, ()), ())).bind fun y_3 =>
        bif bif false then true else y_3.fst.fst then some ((bif true then y.fst.fst else false, ()), ())
        else
          (E3_0 k k (x0, y.fst.fst, (y_1.fst.fst.fst, y_1.fst.fst.snd.fst, ()), (y_2.fst.fst.fst, y_2.fst.fst.snd.fst, ()), 0, ())).bind fun y =>
            match y with
            | Sum.inl y => bif y.fst then (F19 k ((y.snd.fst.fst, y.snd.fst.snd.fst, ()), ())).bind fun y_4 => (bif true then F14 k (y_4.fst.fst, y.snd.snd.fst.fst, ()) else some ((Ty.b.dflt, ()), ())).bind fun y => some ((bif true then y.fst.fst else false, ()), ()) else some ((false, ()), ())
            | Sum.inr y =>
              match y with
              | Sum.inl y => some ((y.fst, ()), ())
              | Sum.inr y => nomatch y) := by kernel_rfl
theorem E4_0_eq (k j : Nat) (x0 : Ty.den T22) (x3 : Ty.den T4) (x4f0 : List (Ty.den T31)) (x4f1 : Ty.den T2) (x5 : List (Ty.den T31)) (x6 : List (Ty.den T31)) (x7 : Ty.den T3) : E4_0 k (j + 1) (x0, x3, (x4f0, x4f1, ()), x5, x6, x7, ()) = (
  bif decide (x7 < (↑(List.length x0) : Int)) then bif inb x7 (List.length x0) then bif decide ((rd ((Ty.i IntKind.i64).p (((Ty.i IntKind.i64).p ((Ty.i IntKind.i64).p ((Ty.i IntKind.i64).p (Ty.s.p ((Ty.i IntKind.i64).p ((Ty.i IntKind.i64).p Ty.s)).l)))).p (Ty.i IntKind.i64))) x0 x7).fst = 3) then bif inb x7 (List.length x0) then (F12 k ((x4f0, x4f1, ()), (rd ((Ty.i IntKind.i64).p (((Ty.i IntKind.i64).p ((Ty.i IntKind.i64).p ((Ty.i IntKind.i64).p (Ty.s.p ((Ty.i IntKind.i64).p ((Ty.i IntKind.i64).p Ty.s)).l)))).p (Ty.i IntKind.i64))) x0 x7).snd.snd, ())).bind fun y => bif bif !decide (y.fst.snd.fst = 0) then decide (0 < (↑(List.length y.fst.fst) : Int)) else false then some (Sum.inr (Sum.inl (false, ()))) else bif decide ((x5.length + List.length y.fst.fst) * (63 + 1) ≤ 140737488355328) then E4_0 k j (x0, x3, (y.snd.fst.fst, y.snd.fst.snd.fst, ()), x5 ++ y.fst.fst, x6, IntKind.i64.wrap (x7 + 1), ()) else none else none else bif inb x7 (List.length x0) then (F15 k ((x4f0, x4f1, ()), (rd ((Ty.i IntKind.i64).p (((Ty.i IntKind.i64).p ((Ty.i IntKind.i64).p ((Ty.i IntKind.i64).p (Ty.s.p ((Ty.i IntKind.i64).p ((Ty.i IntKind.i64).p Ty.s)).l)))).p (Ty.i IntKind.i64))) x0 x7).snd.fst, ())).bind fun y => bif decide (y.fst.fst = 0) then bif inb x7 (List.length x0) then bif decide ((x6.length + [(rd ((Ty.i IntKind.i64).p (((Ty.i IntKind.i64).p ((Ty.i IntKind.i64).p ((Ty.i IntKind.i64).p (Ty.s.p ((Ty.i IntKind.i64).p ((Ty.i IntKind.i64).p Ty.s)).l)))).p (Ty.i IntKind.i64))) x0 x7).snd.fst].length) * (63 + 1) ≤ 140737488355328) then E4_0 k j (x0, x3, (y.snd.fst.fst, y.snd.fst.snd.fst, ()), x5, x6 ++ [(rd ((Ty.i IntKind.i64).p (((Ty.i IntKind.i64).p ((Ty.i IntKind.i64).p ((Ty.i IntKind.i64).p (Ty.s.p ((Ty.i IntKind.i64).p ((Ty.i IntKind.i64).p Ty.s)).l)))).p (Ty.i IntKind.i64))) x0 x7).snd.fst], IntKind.i64.wrap (x7 + 1), ()) else none else none else E4_0 k j (x0, x3, (y.snd.fst.fst, y.snd.fst.snd.fst, ()), x5, x6, IntKind.i64.wrap (x7 + 1), ()) else none else none else some (Sum.inl (x3, (x4f0, x4f1, ()), x5, x6, ()))) := by kernel_rfl
theorem E4_1_eq (k j : Nat) (x3 : Ty.den T4) (x5 : List (Ty.den T31)) (x6 : List (Ty.den T31)) (x12 : Ty.den T3) : E4_1 k (j + 1) (x3, x5, x6, x12, ()) = (
  bif decide (x12 < (↑x5.length : Int)) then bif inb (IntKind.i64.wrap (x12 - 1)) x5.length then bif inb (IntKind.i64.wrap (x12 - 1)) x5.length then bif inb x12 x5.length then bif inb x12 x5.length then (F20 k (rd ((Ty.i IntKind.i64).p ((Ty.i IntKind.i64).p ((Ty.i IntKind.i64).p (Ty.s.p ((Ty.i IntKind.i64).p ((Ty.i IntKind.i64).p Ty.s)).l)))) x5 (IntKind.i64.wrap (x12 - 1)), rd ((Ty.i IntKind.i64).p ((Ty.i IntKind.i64).p ((Ty.i IntKind.i64).p (Ty.s.p ((Ty.i IntKind.i64).p ((Ty.i IntKind.i64).p Ty.s)).l)))) x5 x12, ())).bind fun y => bif !y.fst.fst then some (Sum.inr (Sum.inl (false, ()))) else E4_1 k j (x3, x5, x6, IntKind.i64.wrap (x12 + 1), ()) else none else none else none else none else some (Sum.inl (x3, x5, x6, ()))) := by kernel_rfl
theorem E4_2_0_eq (k j : Nat) (x3 : Ty.den T4) (x5 : List (Ty.den T31)) (x6 : List (Ty.den T31)) (x13 : Ty.den T3) (x14 : Ty.den T4) (x15 : Ty.den T3) : E4_2_0 k (j + 1) (x3, x5, x6, x13, x14, x15, ()) = (
  bif decide (x15 < (↑x5.length : Int)) then bif bif !x14 then inb x13 x6.length else true then bif bif !x14 then inb x13 x6.length else true then bif bif !x14 then inb x15 x5.length else true then bif bif !x14 then inb x15 x5.length else true then (bif !x14 then F21 k (rd ((Ty.i IntKind.i64).p ((Ty.i IntKind.i64).p ((Ty.i IntKind.i64).p (Ty.s.p ((Ty.i IntKind.i64).p ((Ty.i IntKind.i64).p Ty.s)).l)))) x6 x13, rd ((Ty.i IntKind.i64).p ((Ty.i IntKind.i64).p ((Ty.i IntKind.i64).p (Ty.s.p ((Ty.i IntKind.i64).p ((Ty.i IntKind.i64).p Ty.s)).l)))) x5 x15, ()) else some ((Ty.b.dflt, ()), ())).bind fun y => E4_2_0 k j (x3, x5, x6, x13, bif x14 then true else y.fst.fst, IntKind.i64.wrap (x15 + 1), ()) else none else none else none else none else some (Sum.inl (x3, x5, x6, x13, x14, ()))) := by kernel_rfl
theorem E4_2_eq (k j : Nat) (x3 : Ty.den T4) (x5 : List (Ty.den T31)) (x6 : List (Ty.den T31)) (x13 : Ty.den T3) : E4_2 k (j + 1) (x3, x5, x6, x13, ()) = (
  bif decide (x13 < (↑x6.length : Int)) then
  (E4_2_0 k k (x3, x5, x6, x13, false, 0, ())).bind fun y =>
    match y with
    | Sum.inl y => bif !y.snd.snd.snd.snd.fst then some (Sum.inr (Sum.inl (false, ()))) else E4_2 k j (y.fst, y.snd.fst, y.snd.snd.fst, IntKind.i64.wrap (y.snd.snd.snd.fst + 1), ())
    | Sum.inr y => nomatch y
  else some (Sum.inl (x3, ()))) := by kernel_rfl
theorem F4_eq (k : Nat) (x0 : Ty.den T22) : F4 k (x0, ()) = (
(F8 k ()).bind fun y =>
  (F9 k ()).bind fun y_1 =>
    (bif !false then F11 k (x0, ()) else some ((Ty.b.dflt, ()), ())).bind fun y_2 =>
      bif bif false then true else y_2.fst.fst then some ((bif true then y.fst.fst else false, ()), ())
      else
        (E4_0 k k (x0, y.fst.fst, (y_1.fst.fst.fst, y_1.fst.fst.snd.fst, ()), [], [], 0, ())).bind fun y =>
          match y with
          | Sum.inl y =>
            (F12 k ((y.snd.fst.fst, y.snd.fst.snd.fst, ()), 1099511627776, ())).bind fun y_3 =>
              bif decide ((List.length y.snd.snd.fst + List.length y_3.fst.fst) * (63 + 1) ≤ 140737488355328) then
                bif !bif !decide (y_3.fst.snd.fst = 0) then true else !decide ((↑(y.snd.snd.fst ++ y_3.fst.fst).length : Int) = (↑(List.length y.snd.snd.snd.fst) : Int)) then
                  (F19 k ((y_3.snd.fst.fst, y_3.snd.fst.snd.fst, ()), ())).bind fun y_4 =>
                    bif bif false then true else !decide ((↑(List.length y_4.fst.fst) : Int) = 0) then some ((false, ()), ())
                    else
                      (E4_1 k k (y.fst, y.snd.snd.fst ++ y_3.fst.fst, y.snd.snd.snd.fst, 1, ())).bind fun y =>
                        match y with
                        | Sum.inl y =>
                          (E4_2 k k (y.fst, y.snd.fst, y.snd.snd.fst, 0, ())).bind fun y =>
                            match y with
                            | Sum.inl y => some ((y.fst, ()), ())
                            | Sum.inr y =>
                              match y with
                              | Sum.inl y => some ((y.fst, ()), ())
                              | Sum.inr y => nomatch y
                        | Sum.inr y =>
                          match y with
                          | Sum.inl y => some ((y.fst, ()), ())
                          | Sum.inr y => nomatch y
                else some ((false, ()), ())
              else none
          | Sum.inr y =>
            match y with
            | Sum.inl y => some ((y.fst, ()), ())
            | Sum.inr y => nomatch y) := by kernel_rfl
theorem E5_0_eq (k j : Nat) (x0 : Ty.den T34) (x1 : Ty.den T45) (x5 : Ty.den T4) (x6f0 : List (Ty.den T31)) (x6f1 : Ty.den T2) (x7f0 : List (Ty.den T31)) (x7f1 : Ty.den T2) (x8 : List (Ty.den T31)) (x9 : Ty.den T3) : E5_0 k (j + 1) (x0, x1, x5, (x6f0, x6f1, ()), (x7f0, x7f1, ()), x8, x9, ()) = (
  bif decide (x9 < (↑(List.length x0) : Int)) then bif inb x9 (List.length x0) then (F22 k (rd ((Ty.i IntKind.i64).p ((Ty.i IntKind.i64).p ((Ty.i IntKind.i64).p (Ty.s.p ((Ty.i IntKind.i64).p ((Ty.i IntKind.i64).p Ty.s)).l)))) x0 x9, ())).bind fun y => bif y.fst.fst then some (Sum.inr (Sum.inl (x5, ()))) else bif inb x9 (List.length x0) then (F15 k ((x6f0, x6f1, ()), rd ((Ty.i IntKind.i64).p ((Ty.i IntKind.i64).p ((Ty.i IntKind.i64).p (Ty.s.p ((Ty.i IntKind.i64).p ((Ty.i IntKind.i64).p Ty.s)).l)))) x0 x9, ())).bind fun y => bif decide (y.fst.fst = 0) then bif inb x9 (List.length x0) then bif decide ((x8.length + [rd ((Ty.i IntKind.i64).p ((Ty.i IntKind.i64).p ((Ty.i IntKind.i64).p (Ty.s.p ((Ty.i IntKind.i64).p ((Ty.i IntKind.i64).p Ty.s)).l)))) x0 x9].length) * (63 + 1) ≤ 140737488355328) then E5_0 k j (x0, x1, x5, (y.snd.fst.fst, y.snd.fst.snd.fst, ()), (x7f0, x7f1, ()), x8 ++ [rd ((Ty.i IntKind.i64).p ((Ty.i IntKind.i64).p ((Ty.i IntKind.i64).p (Ty.s.p ((Ty.i IntKind.i64).p ((Ty.i IntKind.i64).p Ty.s)).l)))) x0 x9], IntKind.i64.wrap (x9 + 1), ()) else none else none else E5_0 k j (x0, x1, x5, (y.snd.fst.fst, y.snd.fst.snd.fst, ()), (x7f0, x7f1, ()), x8, IntKind.i64.wrap (x9 + 1), ()) else none else none else some (Sum.inl (x1, x5, (x6f0, x6f1, ()), (x7f0, x7f1, ()), x8, ()))) := by kernel_rfl
theorem E5_1_eq (k j : Nat) (x1 : Ty.den T45) (x5 : Ty.den T4) (x6f0 : List (Ty.den T31)) (x6f1 : Ty.den T2) (x7f0 : List (Ty.den T31)) (x7f1 : Ty.den T2) (x8 : List (Ty.den T31)) (x10 : Ty.den T3) : E5_1 k (j + 1) (x1, x5, (x6f0, x6f1, ()), (x7f0, x7f1, ()), x8, x10, ()) = (
  bif decide (0 ≤ x10) then bif inb x10 x8.length then bif inb x10 x8.length then (F15 k ((x7f0, x7f1, ()), rd ((Ty.i IntKind.i64).p ((Ty.i IntKind.i64).p ((Ty.i IntKind.i64).p (Ty.s.p ((Ty.i IntKind.i64).p ((Ty.i IntKind.i64).p Ty.s)).l)))) x8 x10, ())).bind fun y => bif !decide (y.fst.fst = 0) then some (Sum.inr (Sum.inl (false, ()))) else E5_1 k j (x1, x5, (x6f0, x6f1, ()), (y.snd.fst.fst, y.snd.fst.snd.fst, ()), x8, IntKind.i64.wrap (x10 - 1), ()) else none else none else some (Sum.inl (x1, x5, (x6f0, x6f1, ()), (x7f0, x7f1, ()), ()))) := by kernel_rfl
theorem E5_2_eq (k j : Nat) (x1 : Ty.den T45) (x5 : Ty.den T4) (x6f0 : List (Ty.den T31)) (x6f1 : Ty.den T2) (x7f0 : List (Ty.den T31)) (x7f1 : Ty.den T2) (x12 : Ty.den T3) : E5_2 k (j + 1) (x1, x5, (x6f0, x6f1, ()), (x7f0, x7f1, ()), x12, ()) = (
  bif decide (x12 < (↑(List.length x1) : Int)) then bif inb x12 (List.length x1) then (F12 k ((x6f0, x6f1, ()), rd (Ty.i IntKind.i64) x1 x12, ())).bind fun y => bif inb x12 (List.length x1) then (F12 k ((x7f0, x7f1, ()), rd (Ty.i IntKind.i64) x1 x12, ())).bind fun y_1 => (bif !!decide (y.fst.snd.fst = y_1.fst.snd.fst) then F14 k (y.fst.fst, y_1.fst.fst, ()) else some ((Ty.b.dflt, ()), ())).bind fun y_2 => bif bif !decide (y.fst.snd.fst = y_1.fst.snd.fst) then true else !y_2.fst.fst then some (Sum.inr (Sum.inl (false, ()))) else E5_2 k j (x1, x5, (y.snd.fst.fst, y.snd.fst.snd.fst, ()), (y_1.snd.fst.fst, y_1.snd.fst.snd.fst, ()), IntKind.i64.wrap (x12 + 1), ()) else none else none else some (Sum.inl (x5, (x6f0, x6f1, ()), (x7f0, x7f1, ()), ()))) := by kernel_rfl
theorem F5_eq (k : Nat) (x0 : Ty.den T34) (x1 : Ty.den T45) : F5 k (x0, x1, ()) = (
(F8 k ()).bind fun y =>
  (F9 k ()).bind fun y_1 =>
    (F9 k ()).bind fun y_2 =>
      bif bif bif bif false then true else false then true else decide (200 < (↑(List.length x0) : Int)) then true else decide (100 < (↑(List.length x1) : Int)) then some ((bif bif true then true else false then y.fst.fst else false, ()), ())
      else
        (E5_0 k k (x0, x1, y.fst.fst, (y_1.fst.fst.fst, y_1.fst.fst.snd.fst, ()), (y_2.fst.fst.fst, y_2.fst.fst.snd.fst, ()), [], 0, ())).bind fun y =>
          match y with
          | Sum.inl y =>
            (E5_1 k k (y.fst, y.snd.fst, (y.snd.snd.fst.fst, y.snd.snd.fst.snd.fst, ()), (y.snd.snd.snd.fst.fst, y.snd.snd.snd.fst.snd.fst, ()), y.snd.snd.snd.snd.fst, IntKind.i64.wrap ((↑(List.length y.snd.snd.snd.snd.fst) : Int) - 1), ())).bind fun y =>
              match y with
              | Sum.inl y =>
                (E5_2 k k (y.fst, y.snd.fst, (y.snd.snd.fst.fst, y.snd.snd.fst.snd.fst, ()), (y.snd.snd.snd.fst.fst, y.snd.snd.snd.fst.snd.fst, ()), 0, ())).bind fun y =>
                  match y with
                  | Sum.inl y => bif y.fst then (F19 k ((y.snd.fst.fst, y.snd.fst.snd.fst, ()), ())).bind fun y_3 => (F19 k ((y.snd.snd.fst.fst, y.snd.snd.fst.snd.fst, ()), ())).bind fun y => (bif true then F14 k (y_3.fst.fst, y.fst.fst, ()) else some ((Ty.b.dflt, ()), ())).bind fun y_4 => bif bif true then y_4.fst.fst else false then (F17 k ((y_3.snd.fst.fst, y_3.snd.fst.snd.fst, ()), ())).bind fun y_5 => (F17 k ((y.snd.fst.fst, y.snd.fst.snd.fst, ()), ())).bind fun y => some ((bif true then decide (y_5.fst.fst = y.fst.fst) else false, ()), ()) else some ((false, ()), ()) else some ((false, ()), ())
                  | Sum.inr y =>
                    match y with
                    | Sum.inl y => some ((y.fst, ()), ())
                    | Sum.inr y => nomatch y
              | Sum.inr y =>
                match y with
                | Sum.inl y => some ((y.fst, ()), ())
                | Sum.inr y => nomatch y
          | Sum.inr y =>
            match y with
            | Sum.inl y => some ((y.fst, ()), ())
            | Sum.inr y => nomatch y) := by kernel_rfl
theorem E6_0_eq (k j : Nat) (x0 : Ty.den T22) (x3 : Ty.den T4) (x4f0 : List (Ty.den T31)) (x4f1 : Ty.den T2) (x5 : Ty.den T3) : E6_0 k (j + 1) (x0, x3, (x4f0, x4f1, ()), x5, ()) = (
  bif decide (x5 < (↑(List.length x0) : Int)) then (F19 k ((x4f0, x4f1, ()), ())).bind fun y => (F17 k ((y.snd.fst.fst, y.snd.fst.snd.fst, ()), ())).bind fun y => bif inb x5 (List.length x0) then bif decide ((rd ((Ty.i IntKind.i64).p (((Ty.i IntKind.i64).p ((Ty.i IntKind.i64).p ((Ty.i IntKind.i64).p (Ty.s.p ((Ty.i IntKind.i64).p ((Ty.i IntKind.i64).p Ty.s)).l)))).p (Ty.i IntKind.i64))) x0 x5).fst = 3) then bif inb x5 (List.length x0) then (F12 k ((y.snd.fst.fst, y.snd.fst.snd.fst, ()), (rd ((Ty.i IntKind.i64).p (((Ty.i IntKind.i64).p ((Ty.i IntKind.i64).p ((Ty.i IntKind.i64).p (Ty.s.p ((Ty.i IntKind.i64).p ((Ty.i IntKind.i64).p Ty.s)).l)))).p (Ty.i IntKind.i64))) x0 x5).snd.snd, ())).bind fun y => bif !decide (y.fst.snd.fst = 0) then (F17 k ((y.snd.fst.fst, y.snd.fst.snd.fst, ()), ())).bind fun y => none else none else none else bif inb x5 (List.length x0) then (F15 k ((y.snd.fst.fst, y.snd.fst.snd.fst, ()), (rd ((Ty.i IntKind.i64).p (((Ty.i IntKind.i64).p ((Ty.i IntKind.i64).p ((Ty.i IntKind.i64).p (Ty.s.p ((Ty.i IntKind.i64).p ((Ty.i IntKind.i64).p Ty.s)).l)))).p (Ty.i IntKind.i64))) x0 x5).snd.fst, ())).bind fun y => (F17 k ((y.snd.fst.fst, y.snd.fst.snd.fst, ()), ())).bind fun y => none else none else none else some (Sum.inl (x3, ()))) := by kernel_rfl
theorem F6_eq (k : Nat) (x0 : Ty.den T22) : F6 k (x0, ()) = (
(F8 k ()).bind fun y =>
  (F9 k ()).bind fun y_1 =>
    (bif !false then F11 k (x0, ()) else some ((Ty.b.dflt, ()), ())).bind fun y_2 =>
      bif bif bif false then true else y_2.fst.fst then true else decide (100 < (↑(List.length x0) : Int)) then some ((bif true then y.fst.fst else false, ()), ())
      else
        (E6_0 k k (x0, y.fst.fst, (y_1.fst.fst.fst, y_1.fst.fst.snd.fst, ()), 0, ())).bind fun y =>
          match y with
          | Sum.inl y => some ((y.fst, ()), ())
          | Sum.inr y =>
            match y with
            | Sum.inl y => some ((y.fst, ()), ())
            | Sum.inr y => nomatch y) := by kernel_rfl
theorem E7_0_eq (k j : Nat) (x0 : Ty.den T34) (x1 : Ty.den T2) (x5 : Ty.den T4) (x6f0 : List (Ty.den T31)) (x6f1 : Ty.den T2) (x7 : Ty.den T3) (x8 : Ty.den T3) : E7_0 k (j + 1) (x0, x1, x5, (x6f0, x6f1, ()), x7, x8, ()) = (
  bif decide (x8 < (↑(List.length x0) : Int)) then bif inb x8 (List.length x0) then (F22 k (rd ((Ty.i IntKind.i64).p ((Ty.i IntKind.i64).p ((Ty.i IntKind.i64).p (Ty.s.p ((Ty.i IntKind.i64).p ((Ty.i IntKind.i64).p Ty.s)).l)))) x0 x8, ())).bind fun y => bif y.fst.fst then some (Sum.inr (Sum.inl (x5, ()))) else bif inb x8 (List.length x0) then (F15 k ((x6f0, x6f1, ()), rd ((Ty.i IntKind.i64).p ((Ty.i IntKind.i64).p ((Ty.i IntKind.i64).p (Ty.s.p ((Ty.i IntKind.i64).p ((Ty.i IntKind.i64).p Ty.s)).l)))) x0 x8, ())).bind fun y => bif bif decide (y.fst.fst = 0) then inb x8 (List.length x0) else true then bif bif decide (y.fst.fst = 0) then decide ((rd ((Ty.i IntKind.i64).p ((Ty.i IntKind.i64).p ((Ty.i IntKind.i64).p (Ty.s.p ((Ty.i IntKind.i64).p ((Ty.i IntKind.i64).p Ty.s)).l)))) x0 x8).fst ≤ x1) else false then E7_0 k j (x0, x1, x5, (y.snd.fst.fst, y.snd.fst.snd.fst, ()), IntKind.i64.wrap (x7 + 1), IntKind.i64.wrap (x8 + 1), ()) else E7_0 k j (x0, x1, x5, (y.snd.fst.fst, y.snd.fst.snd.fst, ()), x7, IntKind.i64.wrap (x8 + 1), ()) else none else none else none else some (Sum.inl (x1, x5, (x6f0, x6f1, ()), x7, ()))) := by kernel_rfl
theorem E7_1_eq (k j : Nat) (x1 : Ty.den T2) (x5 : Ty.den T4) (x7 : Ty.den T3) (x9 : Ty.den T3) (x10 : Ty.den T34) (x12 : Ty.den T34) (x13 : Ty.den T3) : E7_1 k (j + 1) (x1, x5, x7, x9, x10, x12, x13, ()) = (
  bif decide (x13 < (↑(List.length x10) : Int)) then bif inb x13 (List.length x10) then bif decide (x1 < (rd ((Ty.i IntKind.i64).p ((Ty.i IntKind.i64).p ((Ty.i IntKind.i64).p (Ty.s.p ((Ty.i IntKind.i64).p ((Ty.i IntKind.i64).p Ty.s)).l)))) x10 x13).fst) then some (Sum.inr (Sum.inl (false, ()))) else E7_1 k j (x1, x5, x7, x9, x10, x12, IntKind.i64.wrap (x13 + 1), ()) else none else some (Sum.inl (x1, x5, x7, x9, x10, x12, ()))) := by kernel_rfl
theorem E7_2_eq (k j : Nat) (x1 : Ty.den T2) (x5 : Ty.den T4) (x7 : Ty.den T3) (x9 : Ty.den T3) (x10 : Ty.den T34) (x12 : Ty.den T34) (x14 : Ty.den T3) : E7_2 k (j + 1) (x1, x5, x7, x9, x10, x12, x14, ()) = (
  bif decide (x14 < (↑(List.length x12) : Int)) then bif inb x14 (List.length x12) then bif decide ((rd ((Ty.i IntKind.i64).p ((Ty.i IntKind.i64).p ((Ty.i IntKind.i64).p (Ty.s.p ((Ty.i IntKind.i64).p ((Ty.i IntKind.i64).p Ty.s)).l)))) x12 x14).fst ≤ x1) then some (Sum.inr (Sum.inl (false, ()))) else E7_2 k j (x1, x5, x7, x9, x10, x12, IntKind.i64.wrap (x14 + 1), ()) else none else some (Sum.inl (x5, x7, x9, x10, x12, ()))) := by kernel_rfl
theorem F7_eq (k : Nat) (x0 : Ty.den T34) (x1 : Ty.den T2) : F7 k (x0, x1, ()) = (
(F8 k ()).bind fun y =>
  (F9 k ()).bind fun y_1 =>
    bif bif false then true else decide (200 < (↑(List.length x0) : Int)) then some ((bif true then y.fst.fst else false, ()), ())
    else
      (E7_0 k k (x0, x1, y.fst.fst, (y_1.fst.fst.fst, y_1.fst.fst.snd.fst, ()), 0, 0, ())).bind fun y =>
        match y with
        | Sum.inl y =>
          (F19 k ((y.snd.snd.fst.fst, y.snd.snd.fst.snd.fst, ()), ())).bind fun y_2 =>
            (F12 k ((y_2.snd.fst.fst, y_2.snd.fst.snd.fst, ()), y.fst, ())).bind fun y_3 =>
              (F19 k ((y_3.snd.fst.fst, y_3.snd.fst.snd.fst, ()), ())).bind fun y_4 =>
                bif !decide (y_3.fst.snd.fst = 0) then some ((bif bif y.snd.fst then decide ((↑(List.length y_3.fst.fst) : Int) = 0) else false then decide ((↑(List.length y_4.fst.fst) : Int) = (↑(List.length y_2.fst.fst) : Int)) else false, ()), ())
                else
                  (E7_1 k k (y.fst, y.snd.fst, y.snd.snd.snd.fst, (↑(List.length y_2.fst.fst) : Int), y_3.fst.fst, y_4.fst.fst, 0, ())).bind fun y =>
                    match y with
                    | Sum.inl y =>
                      (E7_2 k k (y.fst, y.snd.fst, y.snd.snd.fst, y.snd.snd.snd.fst, y.snd.snd.snd.snd.fst, y.snd.snd.snd.snd.snd.fst, 0, ())).bind fun y =>
                        match y with
                        | Sum.inl y => some ((bif bif y.fst then decide ((↑(List.length y.snd.snd.snd.fst) : Int) = y.snd.fst) else false then decide ((↑(List.length y.snd.snd.snd.snd.fst) : Int) = IntKind.i64.wrap (y.snd.snd.fst - y.snd.fst)) else false, ()), ())
                        | Sum.inr y =>
                          match y with
                          | Sum.inl y => some ((y.fst, ()), ())
                          | Sum.inr y => nomatch y
                    | Sum.inr y =>
                      match y with
                      | Sum.inl y => some ((y.fst, ()), ())
                      | Sum.inr y => nomatch y
        | Sum.inr y =>
          match y with
          | Sum.inl y => some ((y.fst, ()), ())
          | Sum.inr y => nomatch y) := by kernel_rfl
end Go.Pv.L06
