import Derived.Test.YtdoaomoocikmaaaDoorKSame33
import Derived.Test.YtdoaomoocikmaaaDoorKSame35
namespace Go.Proofs.YtdoaomoocikmaaaDoor.Pr
open Go.RowKit Go.Proofs.YtdoaomoocikmaaaDoorW.PrintWords Go.Proofs.YtdoaomoocikmaaaDoorW.PrintLast Go.Proofs.YtdoaomoocikmaaaDoorW.PrintMore
attribute [local go_sem] max2_int min2_int max_two min_two max_three min_three max_four min_four
set_option linter.unusedVariables false
set_option linter.unusedSimpArgs false
def rivuletref06_Sorted.l0 : Nat → List (S55) → Int → Option (Bool)
  | 0, _, _ => none
  | k + 1, x0, x3 => if x3 < (x0.length : Int) then (if 0 ≤ x3 then ((rivuletref06_in.f ((rd_T55 x0 x3).f0) 0 1099511627776).bind fun t289 => (if t289 = true then ((rivuletref06_in.f ((rd_T55 x0 x3).f1) 1 1099511627776).bind fun t291 => (if t291 = true then (if x3 > 0 then (if 0 ≤ (wrap64 (x3 - 1)) then (if (wrap64 (x3 - 1)) < (x0.length : Int) then (if ((rd_T55 x0 (wrap64 (x3 - 1))).f0) ≥ ((rd_T55 x0 x3).f0) then (some false) else (rivuletref06_Sorted.l0 k x0 (wrap64 (x3 + 1)))) else (none)) else (none)) else (rivuletref06_Sorted.l0 k x0 (wrap64 (x3 + 1)))) else (some false))) else (some false))) else (none)) else (some (decide ((x0.length : Int) ≤ 32)))
end Go.Proofs.YtdoaomoocikmaaaDoor.Pr
