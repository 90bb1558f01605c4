/- The meanings of functions, laid open by hand. -/
import Derived.Test.YthedngefmaklnaaPvL12
namespace Go.Pv.L12
open Go Go.Pv Go.Proofs
set_option linter.all false
set_option linter.constructorNameAsVariable false
set_option linter.unusedSectionVars false
set_option linter.unusedVariables false
set_option linter.unusedSimpArgs false
set_option maxRecDepth 100000
theorem F8_eq (k : Nat) (x0 : Ty.den T25) (x1 : Ty.den T26) (x2 : Ty.den T5) : F8 k (x0, x1, x2, ()) = (
(F9 k ()).bind fun y =>
  (F10 k (x0, ())).bind fun y_1 =>
    (bif !y_1.fst.fst then F11 k (x1, ()) else some ((Ty.b.dflt, ()), ())).bind fun y_2 =>
      (bif !bif y_1.fst.fst then true else y_2.fst.fst then F17 k (x0, ()) else some ((Ty.b.dflt, ()), ())).bind fun y_3 =>
        bif bif bif y_1.fst.fst then true else y_2.fst.fst then true else !y_3.fst.fst then some ((y.fst.fst, ()), ())
        else
          bif !decide ((↑(List.length x0.fst) : Int) = 0) then
            bif inb ((IntKind.i64.wrap (↑(UInt8.toNat x2) : Int)).tmod (↑(List.length x0.fst) : Int)) (List.length x0.fst) then
              bif !decide ((rd (Ty.b.p (Ty.s.l.p (Ty.s.p (Ty.i IntKind.i64)))) x0.fst ((IntKind.i64.wrap (↑(UInt8.toNat x2) : Int)).tmod (↑(List.length x0.fst) : Int))).snd.snd.snd = 3) then some ((y.fst.fst, ()), ())
              else
                (E8_0 k k (x1, (x0, ()), y.fst.fst, (IntKind.i64.wrap (↑(UInt8.toNat x2) : Int)).tmod (↑(List.length x0.fst) : Int), 0, ())).bind fun y =>
                  match y with
                  | Sum.inl y =>
                    bif inr 0 y.2.2.2.1 y.2.1.1.1.length then
                      bif decide ((([] : List (Ty.den T38)).length + (ext 0 y.2.2.2.1 y.2.1.1.1).length) * (55 + 1) ≤ 140737488355328) then
                        bif inr (IntKind.i64.wrap (y.2.2.2.1 + 1)) y.2.1.1.1.length y.2.1.1.1.length then
                          bif decide ((([] ++ ext 0 y.2.2.2.1 y.2.1.1.1).length + (ext (IntKind.i64.wrap (y.2.2.2.1 + 1)) y.2.1.1.1.length y.2.1.1.1).length) * (55 + 1) ≤ 140737488355328) then
                            (bif y.2.2.1 then F15 k ((([] ++ ext 0 y.2.2.2.1 y.2.1.1.1) ++ ext (IntKind.i64.wrap (y.2.2.2.1 + 1)) y.2.1.1.1.length y.2.1.1.1, [], y.2.1.1.2.2.1, y.2.1.1.2.2.2.1, y.2.1.1.2.2.2.2), y.1, ()) else some ((Ty.b.dflt, ()), ())).bind fun y4 =>
                              (bif y.2.2.1 then F15 k (y.2.1.1, y.1, ()) else some ((Ty.b.dflt, ()), ())).bind fun y5 =>
                                some ((bif y.2.2.1 then decide (y4.1.1 = y5.1.1) else false, ()), ())
                          else none
                        else none
                      else none
                    else none
                  | Sum.inr y =>
                    match y with
                    | Sum.inl y => some ((y.fst, ()), ())
                    | Sum.inr y => nomatch y
            else none
          else none) := by kernel_rfl
end Go.Pv.L12
