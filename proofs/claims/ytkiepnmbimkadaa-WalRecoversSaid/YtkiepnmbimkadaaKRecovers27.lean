import Derived.Test.YtkiepnmbimkadaaKRecovers16
import Derived.Test.YtkiepnmbimkadaaKRecovers21
namespace Go.Proofs.Ytkiepnmbimkadaa.Pr
open Go.RowKit Go.Proofs.YtkiepnmbimkadaaW.PrintWords Go.Proofs.YtkiepnmbimkadaaW.PrintLast Go.Proofs.YtkiepnmbimkadaaW.PrintMore
attribute [local go_sem] max2_int min2_int max_two min_two max_three min_three max_four min_four
set_option linter.unusedVariables false
set_option linter.unusedSimpArgs false
def rivuletref02_All.l0 : Nat → ByteArray → List ByteArray → Int → Option (List ByteArray × Int)
  | 0, _, _, _ => none
  | k + 1, x0, x4, x5 => if x5 < (x0.size : Int) then ((rivuletref02_Open.f k x0 x5).bind fun bt183 => (if bt183.2.2 = 0 then (if x4.length < 8796093022208 then (rivuletref02_All.l0 k x0 (x4 ++ [bt183.1]) bt183.2.1) else (none)) else (some (x4, x5)))) else (some (x4, x5))
def rivuletref02_All.f (k : Nat) (a0 : ByteArray) : Option (List ByteArray × Int) := rivuletref02_All.l0 k a0 (([] : List ByteArray)) 0
end Go.Proofs.Ytkiepnmbimkadaa.Pr
