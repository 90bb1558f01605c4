/- The meanings of functions, laid open by hand: regions that draw. -/
import Derived.Test.YthedngefmaklnaaPvL12
namespace Go.Pv.L12
open Go Go.Pv Go.Proofs
set_option linter.all false
set_option linter.constructorNameAsVariable false
set_option linter.unusedSectionVars false
set_option linter.unusedVariables false
set_option linter.unusedSimpArgs false
set_option maxRecDepth 100000
def exM (x : Ex) : Ex := Ex.mk (Ex.kind x) (Ex.vk x) (Ex.vn x) (Ex.vs x) (Ex.var x) (Ex.fld x) (Ex.kids x)
def min3 (n : Nat) : Int := bif false then bif decide ((n : Int) < 3000) then 3000 else (n : Int) else bif decide (3000 < (n : Int)) then 3000 else (n : Int)
theorem E10_0_eq (k j : Nat) (q : Ty.den T25) (n i : Ty.den T3) : E10_0 k (j + 1) ((q, ()), n, i, ()) = (
  bif bif decide (i < (q.1.length : Int)) then decide (n < 3000) else false then bif inb i q.1.length then bif inb i q.1.length then
  (E10_0_0 k k ((q, ()), IntKind.i64.wrap (IntKind.i64.wrap (n + min3 (ByteArray.size (rd T38 q.1 i).2.2.1)) + ((rd T38 q.1 i).2.1.length : Int)), i, 0, ())).bind fun y =>
    match y with
    | Sum.inl y => E10_0 k j ((y.1.1, ()), y.2.1, IntKind.i64.wrap (y.2.2.1 + 1), ())
    | Sum.inr y => nomatch y
  else none else none
  else some (Sum.inl ((q, ()), n, ()))) := by kernel_rfl
theorem E10_1_eq (k j : Nat) (q : Ty.den T25) (n i : Ty.den T3) : E10_1 k (j + 1) ((q, ()), n, i, ()) = (
  bif bif decide (i < (q.2.1.length : Int)) then decide (n < 3000) else false then bif inb i q.2.1.length then
  (F21 k (exM (rd T52 q.2.1 i).2.1, 3000, ())).bind fun y => bif inb i q.2.1.length then
    (F21 k (exM (rd T52 q.2.1 i).2.2, 3000, ())).bind fun y1 => E10_1 k j ((q, ()), IntKind.i64.wrap (IntKind.i64.wrap (n + y.1.1) + y1.1.1), IntKind.i64.wrap (i + 1), ())
   else none
  else none
  else some (Sum.inl (n, ()))) := by kernel_rfl
theorem E5_0_eq (k j : Nat) (x1 : Ty.den T26) (q : Ty.den T25) (x5 x6 : Ty.den T4) (i : Ty.den T3) : E5_0 k (j + 1) (x1, (q, ()), x5, x6, i, ()) = (
  bif decide (i < (q.1.length : Int)) then bif inb i q.1.length then bif bif !(rd T38 q.1 i).1 then inb i q.1.length else true then
  bif bif (rd T38 q.1 i).1 then true else !decide ((rd T38 q.1 i).2.2.2 = 1) then some (Sum.inr (Sum.inl (x5, ())))
  else bif bif bif x6 then decide (i < (x1.length : Int)) else false then inb i q.1.length else true then bif bif bif x6 then decide (i < (x1.length : Int)) else false then inb i x1.length else true then
    (bif bif x6 then decide (i < (x1.length : Int)) else false then F18 k (rd T38 q.1 i, rd T9 x1 i, ()) else some ((Ty.b.dflt, ()), ())).bind fun y =>
      E5_0 k j (x1, (q, ()), x5, (bif bif x6 then decide (i < (x1.length : Int)) else false then y.1.1 else false), IntKind.i64.wrap (i + 1), ())
    else none else none
  else none else none
  else some (Sum.inl (x1, (q, ()), x5, x6, ()))) := by kernel_rfl
theorem E12_0_eq (k j : Nat) (a b : Ty.den T31) (i : Ty.den T3) : E12_0 k (j + 1) (a, b, i, ()) = (
  bif decide (i < (a.length : Int)) then bif inb i a.length then bif inb i b.length then
  bif bif !!decide ((rd T36 a i).2.2 = (rd T36 b i).2.2) then inb i a.length else true then bif bif !!decide ((rd T36 a i).2.2 = (rd T36 b i).2.2) then inb i b.length else true then
  (bif !!decide ((rd T36 a i).2.2 = (rd T36 b i).2.2) then F20 k ((rd T36 a i).1, (rd T36 b i).1, ()) else some ((Ty.b.dflt, ()), ())).bind fun y =>
   bif bif !(bif !decide ((rd T36 a i).2.2 = (rd T36 b i).2.2) then true else !y.1.1) then inb i a.length else true then bif bif !(bif !decide ((rd T36 a i).2.2 = (rd T36 b i).2.2) then true else !y.1.1) then inb i b.length else true then
   (bif !(bif !decide ((rd T36 a i).2.2 = (rd T36 b i).2.2) then true else !y.1.1) then F20 k ((rd T36 a i).2.1, (rd T36 b i).2.1, ()) else some ((Ty.b.dflt, ()), ())).bind fun y1 =>
     bif (bif (bif !decide ((rd T36 a i).2.2 = (rd T36 b i).2.2) then true else !y.1.1) then true else !y1.1.1) then some (Sum.inr (Sum.inl (false, ()))) else E12_0 k j (a, b, IntKind.i64.wrap (i + 1), ())
   else none else none
  else none else none
 else none else none
  else some (Sum.inl ())) := by kernel_rfl
theorem E24_0_eq (k j : Nat) (x2f0 : Ty.den T25) (x4f0 : Ty.den T36) (x5f0 : List (Ty.den T3)) (x5f1 : List (Ty.den T3)) (x5f2 : Ty.den T4) (x6 : Ty.den T4) (x7 : Ty.den T3) : E24_0 k (j + 1) ((x2f0, ()), (x4f0, ()), (x5f0, x5f1, x5f2, ()), x6, x7, ()) = (
  bif decide (x7 < (↑(List.length x2f0.fst) : Int)) then bif inb x7 (List.length x2f0.fst) then bif bif !(rd (Ty.b.p (Ty.s.l.p (Ty.s.p (Ty.i IntKind.i64)))) x2f0.fst x7).fst then !decide ((rd (Ty.b.p (Ty.s.l.p (Ty.s.p (Ty.i IntKind.i64)))) x2f0.fst x7).snd.snd.snd = 3) else false then bif !x6 then E24_0 k j ((x2f0, ()), (x4f0, ()), (x5f0, x5f1, false, ()), x6, IntKind.i64.wrap (x7 + 1), ()) else bif (rd (Ty.b.p (Ty.s.l.p (Ty.s.p (Ty.i IntKind.i64)))) x2f0.fst x7).fst then bif decide ((x5f1.length + [x7].length) * (7 + 1) ≤ 140737488355328) then E24_0 k j ((x2f0, ()), (x4f0, ()), (x5f0, x5f1 ++ [x7], false, ()), x6, IntKind.i64.wrap (x7 + 1), ()) else none else bif decide ((x5f0.length + [x7].length) * (7 + 1) ≤ 140737488355328) then E24_0 k j ((x2f0, ()), (x4f0, ()), (x5f0 ++ [x7], x5f1, false, ()), decide ((rd (Ty.b.p (Ty.s.l.p (Ty.s.p (Ty.i IntKind.i64)))) x2f0.fst x7).snd.snd.snd = 3), IntKind.i64.wrap (x7 + 1), ()) else none else bif !x6 then E24_0 k j ((x2f0, ()), (x4f0, ()), (x5f0, x5f1, x5f2, ()), x6, IntKind.i64.wrap (x7 + 1), ()) else bif (rd (Ty.b.p (Ty.s.l.p (Ty.s.p (Ty.i IntKind.i64)))) x2f0.fst x7).fst then bif decide ((x5f1.length + [x7].length) * (7 + 1) ≤ 140737488355328) then E24_0 k j ((x2f0, ()), (x4f0, ()), (x5f0, x5f1 ++ [x7], x5f2, ()), x6, IntKind.i64.wrap (x7 + 1), ()) else none else bif decide ((x5f0.length + [x7].length) * (7 + 1) ≤ 140737488355328) then E24_0 k j ((x2f0, ()), (x4f0, ()), (x5f0 ++ [x7], x5f1, x5f2, ()), decide ((rd (Ty.b.p (Ty.s.l.p (Ty.s.p (Ty.i IntKind.i64)))) x2f0.fst x7).snd.snd.snd = 3), IntKind.i64.wrap (x7 + 1), ()) else none else none else some (Sum.inl ((x4f0, ()), (x5f0, x5f1, x5f2, ()), ()))) := by kernel_rfl
end Go.Pv.L12
