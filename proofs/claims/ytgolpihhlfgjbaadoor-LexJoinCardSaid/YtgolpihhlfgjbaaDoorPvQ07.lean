/- The meanings of functions, laid open: written by eqs.py. -/
import Derived.Test.YtgolpihhlfgjbaaDoorPvL07
namespace Go.Pv.L07
open Go Go.Pv Go.Proofs
set_option linter.all false
set_option linter.constructorNameAsVariable false
set_option linter.unusedSectionVars false
set_option linter.unusedVariables false
set_option linter.unusedSimpArgs false
set_option maxRecDepth 100000
theorem F10_eq (k : Nat) (x0 : Ty.den T9) (x1 : Ty.den T9) : F10 k (x0, x1, ()) = (
(F13 k (x0, x1, ())).bind fun y => some ((IntKind.i64.wrap ((↑(ByteArray.size x0) : Int) - (↑(ByteArray.size y.fst.fst) : Int)), ()), ())) := by kernel_rfl
theorem F28_eq (k : Nat) (x0 : Ty.den T9) (x1 : Ty.den T9) : F28 k (x0, x1, ()) = (
  bif decide ((↑(ByteArray.size x1) : Int) ≤ (↑(ByteArray.size x0) : Int)) then bif inr 0 (↑(ByteArray.size x1) : Int) (ByteArray.size x0) then some ((bif true then decide (ByteArray.extract x0 (Int.toNat 0) (↑(ByteArray.size x1) : Int).toNat = x1) else false, ()), ()) else none else some ((false, ()), ())) := by kernel_rfl
theorem F22_eq (k : Nat) (x0 : Ty.den T9) (x1 : Ty.den T9) : F22 k (x0, x1, ()) = (
(F28 k (x0, x1, ())).bind fun y => some ((y.fst.fst, ()), ())) := by kernel_rfl
theorem F14_eq (k : Nat) (x0 : Ty.den T9) : F14 k (x0, ()) = (
(F22 k (x0, { data := #[33, 61] : ByteArray }, ())).bind fun y => bif y.fst.fst then bif y.fst.fst then some ((2, ()), ()) else bif inb 0 (ByteArray.size x0) then (F23 k ({ data := #[61, 60, 62, 43, 45, 40, 41, 46, 63] : ByteArray }, UInt8.ofNat (↑(bt x0 0).toNat : Int).toNat, ())).bind fun y => bif decide (0 ≤ y.fst.fst) then some ((1, ()), ()) else some ((0, ()), ()) else none else (F22 k (x0, { data := #[60, 61] : ByteArray }, ())).bind fun y => bif y.fst.fst then bif y.fst.fst then some ((2, ()), ()) else bif inb 0 (ByteArray.size x0) then (F23 k ({ data := #[61, 60, 62, 43, 45, 40, 41, 46, 63] : ByteArray }, UInt8.ofNat (↑(bt x0 0).toNat : Int).toNat, ())).bind fun y => bif decide (0 ≤ y.fst.fst) then some ((1, ()), ()) else some ((0, ()), ()) else none else (F22 k (x0, { data := #[62, 61] : ByteArray }, ())).bind fun y => bif y.fst.fst then some ((2, ()), ()) else bif inb 0 (ByteArray.size x0) then (F23 k ({ data := #[61, 60, 62, 43, 45, 40, 41, 46, 63] : ByteArray }, UInt8.ofNat (↑(bt x0 0).toNat : Int).toNat, ())).bind fun y => bif decide (0 ≤ y.fst.fst) then some ((1, ()), ()) else some ((0, ()), ()) else none) := by kernel_rfl
theorem E15_0_eq (k j : Nat) (x0 : Ty.den T9) (x3 : Ty.den T3) (x7 : List (Ty.den T5)) (x8 : Ty.den T3) (x9 : Ty.den T3) : E15_0 k (j + 1) (x0, x3, x7, x8, x9, ()) = (
  bif decide (x9 < x8) then bif inb x9 x7.length then bif inb x9 x7.length then bif decide (1099511627776 < x3) then some (Sum.inr (Sum.inl (false, ()))) else E15_0 k j (x0, IntKind.i64.wrap (IntKind.i64.wrap (10 * x3) + IntKind.i64.wrap (IntKind.u8.wrap ((↑(UInt8.toNat (rd Ty.y8 x7 x9)) : Int) - 48))), x7, x8, IntKind.i64.wrap (x9 + 1), ()) else none else none else some (Sum.inl (x0, x3, ()))) := by kernel_rfl
theorem F15_eq (k : Nat) (x0 : Ty.den T9) : F15 k (x0, ()) = (
(E15_0 k k (x0, 0, x0.data.toList, (↑x0.data.toList.length : Int), 0, ())).bind fun y =>
  match y with
  | Sum.inl y => bif bif bif decide ((↑(ByteArray.size y.fst) : Int) ≤ 13) then decide (y.snd.fst ≤ 1099511627776) else false then inb 0 (ByteArray.size y.fst) else true then some ((bif bif decide ((↑(ByteArray.size y.fst) : Int) ≤ 13) then decide (y.snd.fst ≤ 1099511627776) else false then bif !decide ((↑(bt y.fst 0).toNat : Int) = 48) then true else decide (y.fst = { data := #[48] : ByteArray }) else false, ()), ()) else none
  | Sum.inr y =>
    match y with
    | Sum.inl y => some ((y.fst, ()), ())
    | Sum.inr y => nomatch y) := by kernel_rfl
theorem E16_0_eq (k j : Nat) (x3 : Ty.den T3) (x19 : List (Ty.den T5)) (x20 : Ty.den T3) (x21 : Ty.den T3) : E16_0 k (j + 1) (x3, x19, x20, x21, ()) = (
  bif decide (x21 < x20) then bif inb x21 x19.length then bif inb x21 x19.length then bif bif decide ((↑(UInt8.toNat (rd Ty.y8 x19 x21)) : Int) < 32) then true else decide (126 < (↑(UInt8.toNat (rd Ty.y8 x19 x21)) : Int)) then some (Sum.inr (Sum.inl (0, ()))) else E16_0 k j (x3, x19, x20, IntKind.i64.wrap (x21 + 1), ()) else none else none else some (Sum.inl (x3, ()))) := by kernel_rfl
theorem F16_eq (k : Nat) (x0 : Ty.den T9) : F16 k (x0, ()) = (
  bif inr 1 (↑(ByteArray.size x0) : Int) (ByteArray.size x0) then
  (F23 k (ByteArray.extract x0 (Int.toNat 1) (↑(ByteArray.size x0) : Int).toNat, UInt8.ofNat (Int.toNat 39), ())).bind fun y =>
    bif bif decide (y.fst.fst < 0) then true else decide (64 < y.fst.fst) then some ((0, ()), ())
    else
      bif inr 1 (IntKind.i64.wrap (y.fst.fst + 1)) (ByteArray.size x0) then
        (E16_0 k k (y.fst.fst, (ByteArray.extract x0 (Int.toNat 1) (IntKind.i64.wrap (y.fst.fst + 1)).toNat).data.toList, (↑(ByteArray.extract x0 (Int.toNat 1) (IntKind.i64.wrap (y.fst.fst + 1)).toNat).data.toList.length : Int), 0, ())).bind fun y =>
          match y with
          | Sum.inl y => some ((IntKind.i64.wrap (y.fst + 2), ()), ())
          | Sum.inr y =>
            match y with
            | Sum.inl y => some ((y.fst, ()), ())
            | Sum.inr y => nomatch y
      else none
  else none) := by kernel_rfl
theorem F11_eq (k : Nat) (x0 : Ty.den T9) : F11 k (x0, ()) = (
  bif inb 0 (ByteArray.size x0) then bif bif decide (97 ≤ (↑(bt x0 0).toNat : Int)) then decide ((↑(bt x0 0).toNat : Int) ≤ 122) else false then (F10 k (x0, { data := #[97, 98, 99, 100, 101, 102, 103, 104, 105, 106, 107, 108, 109, 110, 111, 112, 113, 114, 115, 116, 117, 118, 119, 120, 121, 122, 48, 49, 50, 51, 52, 53, 54, 55, 56, 57, 95] : ByteArray }, ())).bind fun y => bif decide (16 < y.fst.fst) then bif inr 0 0 (ByteArray.size x0) then some (((1, ByteArray.extract x0 (Int.toNat 0) (Int.toNat 0), 0), 0, ()), ()) else none else bif inr 0 y.fst.fst (ByteArray.size x0) then some (((1, ByteArray.extract x0 (Int.toNat 0) (Int.toNat y.fst.fst), 0), y.fst.fst, ()), ()) else none else bif bif decide (48 ≤ (↑(bt x0 0).toNat : Int)) then decide ((↑(bt x0 0).toNat : Int) ≤ 57) else false then (F10 k (x0, { data := #[48, 49, 50, 51, 52, 53, 54, 55, 56, 57] : ByteArray }, ())).bind fun y => bif inr 0 y.fst.fst (ByteArray.size x0) then (F15 k (ByteArray.extract x0 (Int.toNat 0) (Int.toNat y.fst.fst), ())).bind fun y_1 => bif !y_1.fst.fst then bif inr 0 0 (ByteArray.size x0) then some (((2, ByteArray.extract x0 (Int.toNat 0) (Int.toNat 0), 0), 0, ()), ()) else none else bif inr 0 y.fst.fst (ByteArray.size x0) then some (((2, ByteArray.extract x0 (Int.toNat 0) (Int.toNat y.fst.fst), 0), y.fst.fst, ()), ()) else none else none else bif decide ((↑(bt x0 0).toNat : Int) = 39) then (F16 k (x0, ())).bind fun y => bif decide (y.fst.fst = 0) then some (((0, { data := #[] : ByteArray }, 0), 0, ()), ()) else bif inr 1 (IntKind.i64.wrap (y.fst.fst - 1)) (ByteArray.size x0) then some (((3, ByteArray.extract x0 (Int.toNat 1) (IntKind.i64.wrap (y.fst.fst - 1)).toNat, 0), y.fst.fst, ()), ()) else none else (F14 k (x0, ())).bind fun y => bif inr 0 y.fst.fst (ByteArray.size x0) then some (((4, ByteArray.extract x0 (Int.toNat 0) (Int.toNat y.fst.fst), 0), y.fst.fst, ()), ()) else none else none) := by kernel_rfl
theorem E7_0_eq (k j : Nat) (x0 : Ty.den T9) (x5 : List (Ty.den T29)) (x6 : Ty.den T3) : E7_0 k (j + 1) (x0, x5, x6, ()) = (
  bif decide (x6 < (↑(ByteArray.size x0) : Int)) then bif inr x6 (↑(ByteArray.size x0) : Int) (ByteArray.size x0) then (F11 k (ByteArray.extract x0 (Int.toNat x6) (↑(ByteArray.size x0) : Int).toNat, ())).bind fun y => bif decide (y.fst.snd.fst = 0) then some (Sum.inr (Sum.inl ([], 71, x6, ()))) else bif decide ((↑x5.length : Int) = 128) then some (Sum.inr (Sum.inl ([], 2, x6, ()))) else bif decide ((x5.length + [(y.fst.fst.fst, y.fst.fst.snd.fst, x6)].length) * (31 + 1) ≤ 140737488355328) then bif inr (IntKind.i64.wrap (x6 + y.fst.snd.fst)) (↑(ByteArray.size x0) : Int) (ByteArray.size x0) then (F10 k (ByteArray.extract x0 (IntKind.i64.wrap (x6 + y.fst.snd.fst)).toNat (↑(ByteArray.size x0) : Int).toNat, { data := #[32, 10] : ByteArray }, ())).bind fun y_1 => E7_0 k j (x0, x5 ++ [(y.fst.fst.fst, y.fst.fst.snd.fst, x6)], IntKind.i64.wrap (IntKind.i64.wrap (x6 + y.fst.snd.fst) + y_1.fst.fst), ()) else none else none else none else some (Sum.inl (x5, ()))) := by kernel_rfl
theorem F7_eq (k : Nat) (x0 : Ty.den T9) : F7 k (x0, ()) = (
  bif decide (512 < (↑(ByteArray.size x0) : Int)) then some (([], 2, 0, ()), ())
  else
  (F10 k (x0, { data := #[32, 10] : ByteArray }, ())).bind fun y =>
    (E7_0 k k (x0, [], y.fst.fst, ())).bind fun y =>
      match y with
      | Sum.inl y => some ((y.fst, 0, 0, ()), ())
      | Sum.inr y =>
        match y with
        | Sum.inl y => some ((y.fst, y.snd.fst, y.snd.snd.fst, ()), ())
        | Sum.inr y => nomatch y) := by kernel_rfl
theorem F9_eq (k : Nat) (x0 : Ty.den T9) : F9 k (x0, ()) = (
(bif !decide (x0 = { data := #[] : ByteArray }) then F12 k (x0, { data := #[32] : ByteArray }, ()) else some ((Ty.b.dflt, ()), ())).bind fun y => bif bif bif !decide (x0 = { data := #[] : ByteArray }) then !y.fst.fst else false then decide ({ data := #[32] : ByteArray }.size + ByteArray.size x0 ≤ 9223372036854775807) else true then bif bif bif !decide (x0 = { data := #[] : ByteArray }) then !y.fst.fst else false then decide (({ data := #[32] : ByteArray } ++ x0).size + { data := #[32] : ByteArray }.size ≤ 9223372036854775807) else true then (bif bif !decide (x0 = { data := #[] : ByteArray }) then !y.fst.fst else false then F12 k ({ data := ([32, 115, 101, 113, 32, 116, 104, 101, 110, 32, 110, 111, 116, 32, 111, 114, 32, 119, 104, 101, 114, 101, 32, 97, 110, 100, 32, 119, 105, 116, 104, 105, 110, 32, 98, 121, 32, 112, 105, 99, 107, 32, 97].append [110, 121, 32, 110, 101, 120, 116, 32, 115, 116, 114, 105, 99, 116, 32, 116, 114, 117, 101, 32, 102, 97, 108, 115, 101, 32, 99, 111, 117, 110, 116, 32, 115, 117, 109, 32, 109, 105, 110, 32, 109, 97, 120, 32]).toArray : ByteArray }, { data := #[32] : ByteArray } ++ x0 ++ { data := #[32] : ByteArray }, ()) else some ((Ty.b.dflt, ()), ())).bind fun y_1 => some ((bif bif !decide (x0 = { data := #[] : ByteArray }) then !y.fst.fst else false then y_1.fst.fst else false, ()), ()) else none else none) := by kernel_rfl
theorem F6_eq (k : Nat) : F6 k (()) = (
(F7 k ({ data := #[32, 97, 49, 62, 61, 49, 48, 32, 39, 120, 32, 121, 39] : ByteArray }, ())).bind fun y => (F7 k ({ data := #[97, 32, 48, 49] : ByteArray }, ())).bind fun y_1 => (F7 k ({ data := #[97, 32, 39, 98] : ByteArray }, ())).bind fun y_2 => bif bif bif bif decide ((↑(List.length y.fst.fst) : Int) = 4) then decide (y.fst.snd.fst = 0) else false then decide (y.fst.snd.snd.fst = 0) else false then inb 0 (List.length y.fst.fst) else true then bif bif bif bif bif decide ((↑(List.length y.fst.fst) : Int) = 4) then decide (y.fst.snd.fst = 0) else false then decide (y.fst.snd.snd.fst = 0) else false then decide ((rd ((Ty.i IntKind.i64).p (Ty.s.p (Ty.i IntKind.i64))) y.fst.fst 0).fst = 1) && (decide ((rd ((Ty.i IntKind.i64).p (Ty.s.p (Ty.i IntKind.i64))) y.fst.fst 0).snd.fst = { data := #[97, 49] : ByteArray }) && (decide ((rd ((Ty.i IntKind.i64).p (Ty.s.p (Ty.i IntKind.i64))) y.fst.fst 0).snd.snd = 1) && true)) else false then inb 1 (List.length y.fst.fst) else true then bif bif bif bif bif bif decide ((↑(List.length y.fst.fst) : Int) = 4) then decide (y.fst.snd.fst = 0) else false then decide (y.fst.snd.snd.fst = 0) else false then decide ((rd ((Ty.i IntKind.i64).p (Ty.s.p (Ty.i IntKind.i64))) y.fst.fst 0).fst = 1) && (decide ((rd ((Ty.i IntKind.i64).p (Ty.s.p (Ty.i IntKind.i64))) y.fst.fst 0).snd.fst = { data := #[97, 49] : ByteArray }) && (decide ((rd ((Ty.i IntKind.i64).p (Ty.s.p (Ty.i IntKind.i64))) y.fst.fst 0).snd.snd = 1) && true)) else false then decide ((rd ((Ty.i IntKind.i64).p (Ty.s.p (Ty.i IntKind.i64))) y.fst.fst 1).snd.fst = { data := #[62, 61] : ByteArray }) else false then inb 1 (List.length y.fst.fst) else true then bif bif bif bif bif bif bif decide ((↑(List.length y.fst.fst) : Int) = 4) then decide (y.fst.snd.fst = 0) else false then decide (y.fst.snd.snd.fst = 0) else false then decide ((rd ((Ty.i IntKind.i64).p (Ty.s.p (Ty.i IntKind.i64))) y.fst.fst 0).fst = 1) && (decide ((rd ((Ty.i IntKind.i64).p (Ty.s.p (Ty.i IntKind.i64))) y.fst.fst 0).snd.fst = { data := #[97, 49] : ByteArray }) && (decide ((rd ((Ty.i IntKind.i64).p (Ty.s.p (Ty.i IntKind.i64))) y.fst.fst 0).snd.snd = 1) && true)) else false then decide ((rd ((Ty.i IntKind.i64).p (Ty.s.p (Ty.i IntKind.i64))) y.fst.fst 1).snd.fst = { data := #[62, 61] : ByteArray }) else false then decide ((rd ((Ty.i IntKind.i64).p (Ty.s.p (Ty.i IntKind.i64))) y.fst.fst 1).fst = 4) else false then inb 2 (List.length y.fst.fst) else true then bif bif bif bif bif bif bif bif decide ((↑(List.length y.fst.fst) : Int) = 4) then decide (y.fst.snd.fst = 0) else false then decide (y.fst.snd.snd.fst = 0) else false then decide ((rd ((Ty.i IntKind.i64).p (Ty.s.p (Ty.i IntKind.i64))) y.fst.fst 0).fst = 1) && (decide ((rd ((Ty.i IntKind.i64).p (Ty.s.p (Ty.i IntKind.i64))) y.fst.fst 0).snd.fst = { data := #[97, 49] : ByteArray }) && (decide ((rd ((Ty.i IntKind.i64).p (Ty.s.p (Ty.i IntKind.i64))) y.fst.fst 0).snd.snd = 1) && true)) else false then decide ((rd ((Ty.i IntKind.i64).p (Ty.s.p (Ty.i IntKind.i64))) y.fst.fst 1).snd.fst = { data := #[62, 61] : ByteArray }) else false then decide ((rd ((Ty.i IntKind.i64).p (Ty.s.p (Ty.i IntKind.i64))) y.fst.fst 1).fst = 4) else false then decide ((rd ((Ty.i IntKind.i64).p (Ty.s.p (Ty.i IntKind.i64))) y.fst.fst 2).fst = 2) else false then inb 3 (List.length y.fst.fst) else true then (bif bif bif bif bif bif bif bif bif bif bif bif decide ((↑(List.length y.fst.fst) : Int) = 4) then decide (y.fst.snd.fst = 0) else false then decide (y.fst.snd.snd.fst = 0) else false then decide ((rd ((Ty.i IntKind.i64).p (Ty.s.p (Ty.i IntKind.i64))) y.fst.fst 0).fst = 1) && (decide ((rd ((Ty.i IntKind.i64).p (Ty.s.p (Ty.i IntKind.i64))) y.fst.fst 0).snd.fst = { data := #[97, 49] : ByteArray }) && (decide ((rd ((Ty.i IntKind.i64).p (Ty.s.p (Ty.i IntKind.i64))) y.fst.fst 0).snd.snd = 1) && true)) else false then decide ((rd ((Ty.i IntKind.i64).p (Ty.s.p (Ty.i IntKind.i64))) y.fst.fst 1).snd.fst = { data := #[62, 61] : ByteArray }) else false then decide ((rd ((Ty.i IntKind.i64).p (Ty.s.p (Ty.i IntKind.i64))) y.fst.fst 1).fst = 4) else false then decide ((rd ((Ty.i IntKind.i64).p (Ty.s.p (Ty.i IntKind.i64))) y.fst.fst 2).fst = 2) else false then decide ((rd ((Ty.i IntKind.i64).p (Ty.s.p (Ty.i IntKind.i64))) y.fst.fst 3).snd.fst = { data := #[120, 32, 121] : ByteArray }) else false then decide (y_1.fst.snd.fst = 71) else false then decide (y_1.fst.snd.snd.fst = 2) else false then decide (y_2.fst.snd.fst = 71) else false then decide (y_2.fst.snd.snd.fst = 2) else false then F9 k ({ data := #[115, 101, 113] : ByteArray }, ()) else some ((Ty.b.dflt, ()), ())).bind fun y_3 => (bif bif bif bif bif bif bif bif bif bif bif bif bif decide ((↑(List.length y.fst.fst) : Int) = 4) then decide (y.fst.snd.fst = 0) else false then decide (y.fst.snd.snd.fst = 0) else false then decide ((rd ((Ty.i IntKind.i64).p (Ty.s.p (Ty.i IntKind.i64))) y.fst.fst 0).fst = 1) && (decide ((rd ((Ty.i IntKind.i64).p (Ty.s.p (Ty.i IntKind.i64))) y.fst.fst 0).snd.fst = { data := #[97, 49] : ByteArray }) && (decide ((rd ((Ty.i IntKind.i64).p (Ty.s.p (Ty.i IntKind.i64))) y.fst.fst 0).snd.snd = 1) && true)) else false then decide ((rd ((Ty.i IntKind.i64).p (Ty.s.p (Ty.i IntKind.i64))) y.fst.fst 1).snd.fst = { data := #[62, 61] : ByteArray }) else false then decide ((rd ((Ty.i IntKind.i64).p (Ty.s.p (Ty.i IntKind.i64))) y.fst.fst 1).fst = 4) else false then decide ((rd ((Ty.i IntKind.i64).p (Ty.s.p (Ty.i IntKind.i64))) y.fst.fst 2).fst = 2) else false then decide ((rd ((Ty.i IntKind.i64).p (Ty.s.p (Ty.i IntKind.i64))) y.fst.fst 3).snd.fst = { data := #[120, 32, 121] : ByteArray }) else false then decide (y_1.fst.snd.fst = 71) else false then decide (y_1.fst.snd.snd.fst = 2) else false then decide (y_2.fst.snd.fst = 71) else false then decide (y_2.fst.snd.snd.fst = 2) else false then y_3.fst.fst else false then F9 k ({ data := #[115, 101] : ByteArray }, ()) else some ((Ty.b.dflt, ()), ())).bind fun y_4 => some ((bif bif bif bif bif bif bif bif bif bif bif bif bif decide ((↑(List.length y.fst.fst) : Int) = 4) then decide (y.fst.snd.fst = 0) else false then decide (y.fst.snd.snd.fst = 0) else false then decide ((rd ((Ty.i IntKind.i64).p (Ty.s.p (Ty.i IntKind.i64))) y.fst.fst 0).fst = 1) && (decide ((rd ((Ty.i IntKind.i64).p (Ty.s.p (Ty.i IntKind.i64))) y.fst.fst 0).snd.fst = { data := #[97, 49] : ByteArray }) && (decide ((rd ((Ty.i IntKind.i64).p (Ty.s.p (Ty.i IntKind.i64))) y.fst.fst 0).snd.snd = 1) && true)) else false then decide ((rd ((Ty.i IntKind.i64).p (Ty.s.p (Ty.i IntKind.i64))) y.fst.fst 1).snd.fst = { data := #[62, 61] : ByteArray }) else false then decide ((rd ((Ty.i IntKind.i64).p (Ty.s.p (Ty.i IntKind.i64))) y.fst.fst 1).fst = 4) else false then decide ((rd ((Ty.i IntKind.i64).p (Ty.s.p (Ty.i IntKind.i64))) y.fst.fst 2).fst = 2) else false then decide ((rd ((Ty.i IntKind.i64).p (Ty.s.p (Ty.i IntKind.i64))) y.fst.fst 3).snd.fst = { data := #[120, 32, 121] : ByteArray }) else false then decide (y_1.fst.snd.fst = 71) else false then decide (y_1.fst.snd.snd.fst = 2) else false then decide (y_2.fst.snd.fst = 71) else false then decide (y_2.fst.snd.snd.fst = 2) else false then y_3.fst.fst else false then !y_4.fst.fst else false, ()), ()) else none else none else none else none else none) := by kernel_rfl
theorem F8_eq (k : Nat) (x0 : Ty.den T29) : F8 k (x0, ()) = (
  bif decide (x0.fst = 3) then bif decide ({ data := #[39] : ByteArray }.size + ByteArray.size x0.snd.fst ≤ 9223372036854775807) then bif decide (({ data := #[39] : ByteArray } ++ x0.snd.fst).size + { data := #[39] : ByteArray }.size ≤ 9223372036854775807) then some (({ data := #[39] : ByteArray } ++ x0.snd.fst ++ { data := #[39] : ByteArray }, ()), ()) else none else none else some ((x0.snd.fst, ()), ())) := by kernel_rfl
theorem E3_0_eq (k j : Nat) (x3 : Ty.den T4) (x4 : Ty.den T23) (x7 : Ty.den T9) (x8 : Ty.den T3) : E3_0 k (j + 1) (x3, x4, x7, x8, ()) = (
  bif decide (x8 < (↑(List.length x4) : Int)) then bif decide (0 < x8) then bif decide (ByteArray.size x7 + { data := #[32] : ByteArray }.size ≤ 9223372036854775807) then bif inb x8 (List.length x4) then (F8 k (rd ((Ty.i IntKind.i64).p (Ty.s.p (Ty.i IntKind.i64))) x4 x8, ())).bind fun y => bif decide ((x7 ++ { data := #[32] : ByteArray }).size + ByteArray.size y.fst.fst ≤ 9223372036854775807) then E3_0 k j (x3, x4, x7 ++ { data := #[32] : ByteArray } ++ y.fst.fst, IntKind.i64.wrap (x8 + 1), ()) else none else none else none else bif inb x8 (List.length x4) then (F8 k (rd ((Ty.i IntKind.i64).p (Ty.s.p (Ty.i IntKind.i64))) x4 x8, ())).bind fun y => bif decide (ByteArray.size x7 + ByteArray.size y.fst.fst ≤ 9223372036854775807) then E3_0 k j (x3, x4, x7 ++ y.fst.fst, IntKind.i64.wrap (x8 + 1), ()) else none else none else some (Sum.inl (x3, x4, x7, ()))) := by kernel_rfl
theorem F3_eq (k : Nat) (x0 : Ty.den T9) : F3 k (x0, ()) = (
(F6 k ()).bind fun y =>
  bif decide (3000 < (↑(ByteArray.size x0) : Int)) then some ((y.fst.fst, ()), ())
  else
    (F7 k (x0, ())).bind fun y_1 =>
      bif !decide (y_1.fst.snd.fst = 0) then some ((bif y.fst.fst then decide ((↑(List.length y_1.fst.fst) : Int) = 0) else false, ()), ())
      else
        (E3_0 k k (y.fst.fst, y_1.fst.fst, { data := #[] : ByteArray }, 0, ())).bind fun y =>
          match y with
          | Sum.inl y =>
            (F7 k (y.snd.snd.fst, ())).bind fun y_2 =>
              bif decide (512 < (↑(ByteArray.size y.snd.snd.fst) : Int)) then some ((bif y.fst then decide (y_2.fst.snd.fst = 2) else false, ()), ())
              else
                bif bif !decide (y_2.fst.snd.fst = 0) then true else !decide ((↑(List.length y_2.fst.fst) : Int) = (↑(List.length y.snd.fst) : Int)) then some ((false, ()), ())
                else
                  (E3_1 k k (y.fst, y.snd.fst, y_2.fst.fst, 0, ())).bind fun y =>
                    match y with
                    | Sum.inl y => some ((y.fst, ()), ())
                    | Sum.inr y =>
                      match y with
                      | Sum.inl y => some ((y.fst, ()), ())
                      | Sum.inr y => nomatch y
          | Sum.inr y => nomatch y) := by kernel_rfl
theorem E4_0_0_eq (k j : Nat) (x0 : Ty.den T9) (x3 : Ty.den T4) (x4 : Ty.den T23) (x8 : Ty.den T3) (x9 : Ty.den T3) (x10 : Ty.den T3) : E4_0_0 k (j + 1) (x0, x3, x4, x8, x9, x10, ()) = (
  let t0 : Bool := (!decide ((↑(bt x0 x10).toNat : Int) = 32));
  bif decide (x10 < x9) then bif inb x10 (ByteArray.size x0) then bif bif t0 then inb x10 (ByteArray.size x0) else true then bif bif t0 then !decide ((↑(bt x0 x10).toNat : Int) = 10) else false then some (Sum.inr (Sum.inl (false, ()))) else E4_0_0 k j (x0, x3, x4, x8, x9, IntKind.i64.wrap (x10 + 1), ()) else none else none else some (Sum.inl (x0, x3, x4, x8, x9, ()))) := by kernel_rfl
theorem E4_0_eq (k j : Nat) (x0 : Ty.den T9) (x3 : Ty.den T4) (x4 : Ty.den T23) (x7 : Ty.den T3) (x8 : Ty.den T3) : E4_0 k (j + 1) (x0, x3, x4, x7, x8, ()) = (
  bif decide (x8 ≤ (↑(List.length x4) : Int)) then
  bif decide (x8 < (↑(List.length x4) : Int)) then
    bif inb x8 (List.length x4) then
      bif bif decide ((rd ((Ty.i IntKind.i64).p (Ty.s.p (Ty.i IntKind.i64))) x4 x8).snd.snd < x7) then true else decide ((↑(ByteArray.size x0) : Int) < (rd ((Ty.i IntKind.i64).p (Ty.s.p (Ty.i IntKind.i64))) x4 x8).snd.snd) then some (Sum.inr (Sum.inl (false, ())))
      else
        (E4_0_0 k k (x0, x3, x4, x8, (rd ((Ty.i IntKind.i64).p (Ty.s.p (Ty.i IntKind.i64))) x4 x8).snd.snd, x7, ())).bind fun y =>
          match y with
          | Sum.inl y => bif decide (y.snd.snd.snd.fst = (↑(List.length y.snd.snd.fst) : Int)) then some (Sum.inl (y.snd.fst, y.snd.snd.fst, ())) else bif inb y.snd.snd.snd.fst (List.length y.snd.snd.fst) then (F8 k (rd ((Ty.i IntKind.i64).p (Ty.s.p (Ty.i IntKind.i64))) y.snd.snd.fst y.snd.snd.snd.fst, ())).bind fun y_1 => bif !decide (IntKind.i64.wrap ((↑(ByteArray.size y.fst) : Int) - y.snd.snd.snd.snd.fst) < (↑(ByteArray.size y_1.fst.fst) : Int)) then bif inr y.snd.snd.snd.snd.fst (IntKind.i64.wrap (y.snd.snd.snd.snd.fst + (↑(ByteArray.size y_1.fst.fst) : Int))) (ByteArray.size y.fst) then bif bif bif false then true else !decide (ByteArray.extract y.fst (Int.toNat y.snd.snd.snd.snd.fst) (IntKind.i64.wrap (y.snd.snd.snd.snd.fst + (↑(ByteArray.size y_1.fst.fst) : Int))).toNat = y_1.fst.fst) then true else decide ((↑(ByteArray.size y_1.fst.fst) : Int) = 0) then some (Sum.inr (Sum.inl (false, ()))) else E4_0 k j (y.fst, y.snd.fst, y.snd.snd.fst, IntKind.i64.wrap (y.snd.snd.snd.snd.fst + (↑(ByteArray.size y_1.fst.fst) : Int)), IntKind.i64.wrap (y.snd.snd.snd.fst + 1), ()) else none else some (Sum.inr (Sum.inl (false, ()))) else none
          | Sum.inr y =>
            match y with
            | Sum.inl y => some (Sum.inr (Sum.inl (y.fst, ())))
            | Sum.inr y => nomatch y
    else none
  else
    bif bif decide ((↑(ByteArray.size x0) : Int) < x7) then true else decide ((↑(ByteArray.size x0) : Int) < (↑(ByteArray.size x0) : Int)) then some (Sum.inr (Sum.inl (false, ())))
    else
      (E4_0_0 k k (x0, x3, x4, x8, (↑(ByteArray.size x0) : Int), x7, ())).bind fun y =>
        match y with
        | Sum.inl y => bif decide (y.snd.snd.snd.fst = (↑(List.length y.snd.snd.fst) : Int)) then some (Sum.inl (y.snd.fst, y.snd.snd.fst, ())) else bif inb y.snd.snd.snd.fst (List.length y.snd.snd.fst) then (F8 k (rd ((Ty.i IntKind.i64).p (Ty.s.p (Ty.i IntKind.i64))) y.snd.snd.fst y.snd.snd.snd.fst, ())).bind fun y_1 => bif !decide (IntKind.i64.wrap ((↑(ByteArray.size y.fst) : Int) - y.snd.snd.snd.snd.fst) < (↑(ByteArray.size y_1.fst.fst) : Int)) then bif inr y.snd.snd.snd.snd.fst (IntKind.i64.wrap (y.snd.snd.snd.snd.fst + (↑(ByteArray.size y_1.fst.fst) : Int))) (ByteArray.size y.fst) then bif bif bif false then true else !decide (ByteArray.extract y.fst (Int.toNat y.snd.snd.snd.snd.fst) (IntKind.i64.wrap (y.snd.snd.snd.snd.fst + (↑(ByteArray.size y_1.fst.fst) : Int))).toNat = y_1.fst.fst) then true else decide ((↑(ByteArray.size y_1.fst.fst) : Int) = 0) then some (Sum.inr (Sum.inl (false, ()))) else E4_0 k j (y.fst, y.snd.fst, y.snd.snd.fst, IntKind.i64.wrap (y.snd.snd.snd.snd.fst + (↑(ByteArray.size y_1.fst.fst) : Int)), IntKind.i64.wrap (y.snd.snd.snd.fst + 1), ()) else none else some (Sum.inr (Sum.inl (false, ()))) else none
        | Sum.inr y =>
          match y with
          | Sum.inl y => some (Sum.inr (Sum.inl (y.fst, ())))
          | Sum.inr y => nomatch y
  else some (Sum.inl (x3, x4, ()))) := by kernel_rfl
theorem F4_eq (k : Nat) (x0 : Ty.den T9) : F4 k (x0, ()) = (
(F6 k ()).bind fun y =>
  bif decide (3000 < (↑(ByteArray.size x0) : Int)) then some ((y.fst.fst, ()), ())
  else
    (F7 k (x0, ())).bind fun y_1 =>
      bif !decide (y_1.fst.snd.fst = 0) then some ((y.fst.fst, ()), ())
      else
        (E4_0 k k (x0, y.fst.fst, y_1.fst.fst, 0, 0, ())).bind fun y =>
          match y with
          | Sum.inl y => some ((bif y.fst then decide ((↑(List.length y.snd.fst) : Int) ≤ 128) else false, ()), ())
          | Sum.inr y =>
            match y with
            | Sum.inl y => some ((y.fst, ()), ())
            | Sum.inr y => nomatch y) := by kernel_rfl
theorem F5_eq (k : Nat) (x0 : Ty.den T9) (x1 : Ty.den T9) : F5 k (x0, x1, ()) = (
(F6 k ()).bind fun y =>
  bif decide (500 < IntKind.i64.wrap ((↑(ByteArray.size x0) : Int) + (↑(ByteArray.size x1) : Int))) then some ((y.fst.fst, ()), ())
  else
    (F7 k (x0, ())).bind fun y_1 =>
      (F7 k (x1, ())).bind fun y_2 =>
        bif decide (ByteArray.size x0 + { data := #[32] : ByteArray }.size ≤ 9223372036854775807) then
          bif decide ((x0 ++ { data := #[32] : ByteArray }).size + ByteArray.size x1 ≤ 9223372036854775807) then
            (F7 k (x0 ++ { data := #[32] : ByteArray } ++ x1, ())).bind fun y_3 =>
              bif !decide (y_1.fst.snd.fst = 0) then some ((y.fst.fst, ()), ())
              else
                bif !decide (y_2.fst.snd.fst = 0) then some ((bif y.fst.fst then bif !decide (y_3.fst.snd.fst = 0) then bif decide (y_3.fst.snd.snd.fst = IntKind.i64.wrap (IntKind.i64.wrap ((↑(ByteArray.size x0) : Int) + 1) + y_2.fst.snd.snd.fst)) then true else decide (y_3.fst.snd.fst = 2) else false else false, ()), ())
                else
                  bif decide (128 < IntKind.i64.wrap ((↑(List.length y_1.fst.fst) : Int) + (↑(List.length y_2.fst.fst) : Int))) then some ((bif y.fst.fst then decide (y_3.fst.snd.fst = 2) else false, ()), ())
                  else
                    bif bif !decide (y_3.fst.snd.fst = 0) then true else !decide ((↑(List.length y_3.fst.fst) : Int) = IntKind.i64.wrap ((↑(List.length y_1.fst.fst) : Int) + (↑(List.length y_2.fst.fst) : Int))) then some ((false, ()), ())
                    else
                      (E5_0 k k (x0, y.fst.fst, y_1.fst.fst, y_2.fst.fst, y_3.fst.fst, 0, ())).bind fun y =>
                        match y with
                        | Sum.inl y => some ((y.fst, ()), ())
                        | Sum.inr y =>
                          match y with
                          | Sum.inl y => some ((y.fst, ()), ())
                          | Sum.inr y => nomatch y
          else none
        else none) := by kernel_rfl
end Go.Pv.L07
