import Derived.Test.YtdoaomoocikmaaaDoorKSame33
import Derived.Test.YtdoaomoocikmaaaDoorKSame40
namespace Go.Proofs.YtdoaomoocikmaaaDoor.Pr
open Go.RowKit Go.Proofs.YtdoaomoocikmaaaDoorW.PrintWords Go.Proofs.YtdoaomoocikmaaaDoorW.PrintLast Go.Proofs.YtdoaomoocikmaaaDoorW.PrintMore
attribute [local go_sem] max2_int min2_int max_two min_two max_three min_three max_four min_four
set_option linter.unusedVariables false
set_option linter.unusedSimpArgs false
def rivuletref06_Marks.l0 : Nat → List (S55) → ByteArray → Int → Option (ByteArray)
  | 0, _, _, _ => none
  | k + 1, x0, x3, x4 => if x4 < (x0.length : Int) then (if 0 ≤ x4 then ((rivuletref01_Put.f (IntKind.u64.wrap ((rd_T55 x0 x4).f0))).bind fun t342 => ((rivuletref01_Put.f (IntKind.u64.wrap ((rd_T55 x0 x4).f1))).bind fun t344 => (if t342.size + t344.size ≤ 9223372036854775807 then (if x3.size + (t342 ++ t344).size ≤ 9223372036854775807 then (rivuletref06_Marks.l0 k x0 (x3 ++ (t342 ++ t344)) (wrap64 (x4 + 1))) else (none)) else (none)))) else (none)) else (some x3)
end Go.Proofs.YtdoaomoocikmaaaDoor.Pr
