import Derived.Test.YtdoaomoocikmaaaDoorKAges8
import Derived.Test.YtdoaomoocikmaaaDoorKAges16
namespace Go.Proofs.YtdoaomoocikmaaaDoor.Pv
open Go.RowKit Go.Proofs.YtdoaomoocikmaaaDoorW.PrintWords Go.Proofs.YtdoaomoocikmaaaDoorW.PrintLast Go.Proofs.YtdoaomoocikmaaaDoorW.PrintMore
attribute [local go_sem] max2_int min2_int max_two min_two max_three min_three max_four min_four
set_option linter.unusedVariables false
set_option linter.unusedSimpArgs false
def rivuletref03_Right.l0 : Nat → List ByteArray → Int → Option (Bool)
  | 0, _, _ => none
  | k + 1, x3, x4 => if x4 < (x3.length : Int) then (if 0 ≤ x4 then ((rivuletref03_Name.f k (rdOf ByteArray.empty x3 x4)).bind fun t158 => (if t158 = true then (rivuletref03_Right.l0 k x3 (wrap64 (x4 + 1))) else (some false))) else (none)) else (some (decide ((x3.length : Int) ≤ 8)))
def rivuletref03_Right.f (k : Nat) (a0 : ByteArray) : Option (Bool) := (rivuletref03_Levels.f k a0).bind fun t154 => (rivuletref03_Right.l0 k t154 0)
end Go.Proofs.YtdoaomoocikmaaaDoor.Pv
