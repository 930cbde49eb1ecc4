import Derived.Test.YtkiepnmbimkadaaKRecovers16
namespace Go.Proofs.Ytkiepnmbimkadaa.Pr
open Go.RowKit Go.Proofs.YtkiepnmbimkadaaW.PrintWords Go.Proofs.YtkiepnmbimkadaaW.PrintLast Go.Proofs.YtkiepnmbimkadaaW.PrintMore
attribute [local go_sem] max2_int min2_int max_two min_two max_three min_three max_four min_four
set_option linter.unusedVariables false
set_option linter.unusedSimpArgs false
def rivuletref01_big.f : Nat → Int → Int → Option (ByteArray)
  | 0, _, _ => none
  | k + 1, a0, a1 => if a1 = 0 then (some (⟨#[]⟩ : ByteArray)) else ((rivuletref01_big.f k (IntKind.u64.wrap (Int.tdiv a0 256)) (wrap64 (a1 - 1))).bind fun t148 => ((some (([(Int.tmod a0 256) % 256] : List Int) : List Int)).bind fun y149 => (if t148.size + (strOfNums y149).size ≤ 9223372036854775807 then (some (t148 ++ (strOfNums y149))) else (none))))
def rivuletref01_Put.l0 : Nat → Int → Int → Int → Option (ByteArray)
  | 0, _, _, _ => none
  | k + 1, x0, x3, x4 => if x4 > 0 then (rivuletref01_Put.l0 k x0 (wrap64 (x3 + 1)) (IntKind.u64.wrap (Int.tdiv x4 256))) else ((rivuletref01_big.f k (IntKind.u64.wrap (wrap64 (247 + x3))) 1).bind fun t157 => ((rivuletref01_big.f k x0 x3).bind fun t158 => (if t157.size + t158.size ≤ 9223372036854775807 then (some (t157 ++ t158)) else (none))))
def rivuletref01_Put.f (k : Nat) (a0 : Int) : Option (ByteArray) := if a0 ≤ 240 then ((rivuletref01_big.f k a0 1).bind fun t152 => (some t152)) else (if a0 ≤ 2287 then ((rivuletref01_big.f k (IntKind.u64.wrap (241 + (IntKind.u64.wrap (Int.tdiv (IntKind.u64.wrap (a0 - 240)) 256)))) 1).bind fun t153 => ((rivuletref01_big.f k (Int.tmod (IntKind.u64.wrap (a0 - 240)) 256) 1).bind fun t154 => (if t153.size + t154.size ≤ 9223372036854775807 then (some (t153 ++ t154)) else (none)))) else (if a0 ≤ 67823 then ((rivuletref01_big.f k 249 1).bind fun t155 => ((rivuletref01_big.f k (IntKind.u64.wrap (a0 - 2288)) 2).bind fun t156 => (if t155.size + t156.size ≤ 9223372036854775807 then (some (t155 ++ t156)) else (none)))) else (rivuletref01_Put.l0 k a0 3 (IntKind.u64.wrap (Int.tdiv (IntKind.u64.wrap (Int.tdiv (IntKind.u64.wrap (Int.tdiv a0 256)) 256)) 256)))))
end Go.Proofs.Ytkiepnmbimkadaa.Pr
