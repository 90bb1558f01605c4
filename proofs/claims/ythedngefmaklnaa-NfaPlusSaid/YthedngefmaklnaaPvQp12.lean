/- The meanings of functions, laid open by hand. -/
import Derived.Test.YthedngefmaklnaaPvL12
namespace Go.Pv.L12
open Go Go.Pv Go.Proofs
set_option linter.all false
set_option linter.constructorNameAsVariable false
set_option linter.unusedSectionVars false
set_option linter.unusedVariables false
set_option linter.unusedSimpArgs false
set_option maxRecDepth 100000
def zOpt : Ty.den T38 := (false, [({ data := #[122] } : ByteArray)], ({ data := #[122, 122] } : ByteArray), (3 : Int))
noncomputable def F6rest (k : Nat) (x0 : Ty.den T25) (x1 : Ty.den T26) (up : Bool) : Option (shsDen O6 × shsDen (shsUpd I6)) :=
  bif decide ((6 : Int) ≤ (x0.1.length : Int)) then some ((up, ()), ())
  else bif decide ((([] : List (Ty.den T38)).length + x0.1.length) * (55 + 1) ≤ 140737488355328) then
    bif decide ((([] ++ x0.1).length + [zOpt].length) * (55 + 1) ≤ 140737488355328) then
      (F17 k ((([] ++ x0.1) ++ [zOpt], x0.2.1, x0.2.2.1, x0.2.2.2.1, x0.2.2.2.2), ())).bind fun y7 =>
        bif !y7.1.1 then some ((up, ()), ())
        else (bif up then F15 k ((([] ++ x0.1) ++ [zOpt], x0.2.1, x0.2.2.1, x0.2.2.2.1, x0.2.2.2.2), x1, ()) else some ((Ty.b.dflt, ()), ())).bind fun y8 =>
          bif (bif up then y8.1.1 else false) then
            bif decide ((([] : List (Ty.den T9)).length + x1.length) * (15 + 1) ≤ 140737488355328) then
              bif decide ((([] ++ x1).length + [({ data := #[122] } : ByteArray)].length) * (15 + 1) ≤ 140737488355328) then
                (F15 k ((([] ++ x0.1) ++ [zOpt], x0.2.1, x0.2.2.1, x0.2.2.2.1, x0.2.2.2.2), ([] ++ x1) ++ [({ data := #[122] } : ByteArray)], ())).bind fun y9 => some ((y9.1.1, ()), ())
              else none
            else none
          else some ((false, ()), ())
    else none
  else none
theorem F6_eq (k : Nat) (x0 : Ty.den T25) (x1 : Ty.den T26) : F6 k (x0, x1, ()) = (
(F9 k ()).bind fun y =>
  (F10 k (x0, ())).bind fun y_1 =>
    (bif !y_1.1.1 then F11 k (x1, ()) else some ((Ty.b.dflt, ()), ())).bind fun y_2 =>
      (bif !bif y_1.1.1 then true else y_2.1.1 then F17 k (x0, ()) else some ((Ty.b.dflt, ()), ())).bind fun y_3 =>
        (bif !bif bif bif y_1.1.1 then true else y_2.1.1 then true else !y_3.1.1 then true else decide ((x1.length : Int) = 0) then F15 k (x0, x1, ()) else some ((Ty.b.dflt, ()), ())).bind fun y_4 =>
          bif bif bif bif bif y_1.1.1 then true else y_2.1.1 then true else !y_3.1.1 then true else decide ((x1.length : Int) = 0) then true else !y_4.1.1 then some ((y.1.1, ()), ())
          else
            bif inb (IntKind.i64.wrap ((x0.1.length : Int) - 1)) x0.1.length then
              bif (bif decide ((rd T38 x0.1 (IntKind.i64.wrap ((x0.1.length : Int) - 1))).2.2.2 = 2) then inb (IntKind.i64.wrap ((x1.length : Int) - 1)) x1.length else true) then
                (bif decide ((rd T38 x0.1 (IntKind.i64.wrap ((x0.1.length : Int) - 1))).2.2.2 = 2) then F18 k (rd T38 x0.1 (IntKind.i64.wrap ((x0.1.length : Int) - 1)), rd Ty.s x1 (IntKind.i64.wrap ((x1.length : Int) - 1)), ()) else some ((Ty.b.dflt, ()), ())).bind fun y_5 =>
                  bif (bif decide ((rd T38 x0.1 (IntKind.i64.wrap ((x0.1.length : Int) - 1))).2.2.2 = 2) then y_5.1.1 else false) then
                    bif decide ((([] : List (Ty.den T9)).length + x1.length) * (15 + 1) ≤ 140737488355328) then
                      bif inb (IntKind.i64.wrap ((x1.length : Int) - 1)) x1.length then
                        bif decide ((([] ++ x1).length + [rd Ty.s x1 (IntKind.i64.wrap ((x1.length : Int) - 1))].length) * (15 + 1) ≤ 140737488355328) then
                          (F15 k (x0, ([] ++ x1) ++ [rd Ty.s x1 (IntKind.i64.wrap ((x1.length : Int) - 1))], ())).bind fun y_6 =>
                            bif !y_6.1.1 then some ((false, ()), ()) else F6rest k x0 x1 y.1.1
                        else none
                      else none
                    else none
                  else F6rest k x0 x1 y.1.1
              else none
            else none) := by kernel_rfl
end Go.Pv.L12
