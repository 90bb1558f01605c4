/- The meanings of functions, laid open by hand: regions that draw. -/
import Derived.Test.YtfmcfigoendjiaaGreatPvL16
namespace Go.Pv.L16
open Go Go.Pv Go.Proofs
set_option linter.all false
set_option linter.constructorNameAsVariable false
set_option linter.unusedSectionVars false
set_option linter.unusedVariables false
set_option linter.unusedSimpArgs false
set_option maxRecDepth 100000
def exM (x : Ex) : Ex := Ex.mk (Ex.kind x) (Ex.vk x) (Ex.vn x) (Ex.vs x) (Ex.var x) (Ex.fld x) (Ex.kids x)
def min3 (n : Nat) : Int := bif false then bif decide ((n : Int) < 3000) then 3000 else (n : Int) else bif decide (3000 < (n : Int)) then 3000 else (n : Int)
theorem E38_0_eqh (k j : Nat) (q : Ty.den T53) (n i : Ty.den T3) : E38_0 k (j + 1) ((q, ()), n, i, ()) = (
  bif bif decide (i < (q.1.length : Int)) then decide (n < 3000) else false then bif inb i q.1.length then bif inb i q.1.length then
  (E38_0_0 k k ((q, ()), IntKind.i64.wrap (IntKind.i64.wrap (n + min3 (ByteArray.size (rd T66 q.1 i).2.2.1)) + ((rd T66 q.1 i).2.1.length : Int)), i, 0, ())).bind fun y =>
    match y with
    | Sum.inl y => E38_0 k j ((y.1.1, ()), y.2.1, IntKind.i64.wrap (y.2.2.1 + 1), ())
    | Sum.inr y => nomatch y
  else none else none
  else some (Sum.inl ((q, ()), n, ()))) := by kernel_rfl
theorem E38_1_eqh (k j : Nat) (q : Ty.den T53) (n i : Ty.den T3) : E38_1 k (j + 1) ((q, ()), n, i, ()) = (
  bif bif decide (i < (q.2.1.length : Int)) then decide (n < 3000) else false then bif inb i q.2.1.length then
  (F54 k (exM (rd T86 q.2.1 i).2.1, 3000, ())).bind fun y => bif inb i q.2.1.length then
    (F54 k (exM (rd T86 q.2.1 i).2.2, 3000, ())).bind fun y1 => E38_1 k j ((q, ()), IntKind.i64.wrap (IntKind.i64.wrap (n + y.1.1) + y1.1.1), IntKind.i64.wrap (i + 1), ())
   else none
  else none
  else some (Sum.inl (n, ()))) := by kernel_rfl
end Go.Pv.L16
