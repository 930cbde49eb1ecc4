import Derived.Test.YtkiepnmbimkadaaKRecovers16
import Derived.Test.YtkiepnmbimkadaaKRecovers19
namespace Go.Proofs.Ytkiepnmbimkadaa.Pr
open Go.RowKit Go.Proofs.YtkiepnmbimkadaaW.PrintWords Go.Proofs.YtkiepnmbimkadaaW.PrintLast Go.Proofs.YtkiepnmbimkadaaW.PrintMore
attribute [local go_sem] max2_int min2_int max_two min_two max_three min_three max_four min_four
set_option linter.unusedVariables false
set_option linter.unusedSimpArgs false
mutual
def rivuletref01_Get.j0 : Nat → ByteArray → Int → Bool → Option (Int × Int × Int)
  | 0, _, _, _ => none
  | k + 1, x0, x1, x18 => if x18 = true then (some (0, 0, 1)) else (if x1 = (x0.size : Int) then (some (0, 0, 3)) else (if 0 ≤ x1 then (if x1 < (x0.size : Int) then (if (wrap64 (bt x0 x1)) > 240 then (rivuletref01_Get.j1 k x0 x1 (wrap64 (bt x0 x1)) 1) else (rivuletref01_Get.j1 k x0 x1 (wrap64 (bt x0 x1)) 0)) else (none)) else (none)))
def rivuletref01_Get.j1 : Nat → ByteArray → Int → Int → Int → Option (Int × Int × Int)
  | 0, _, _, _, _ => none
  | k + 1, x0, x1, x7, x8 => if x7 = 249 then (rivuletref01_Get.j2 k x0 x1 x7 2) else (rivuletref01_Get.j2 k x0 x1 x7 x8)
def rivuletref01_Get.j2 : Nat → ByteArray → Int → Int → Int → Option (Int × Int × Int)
  | 0, _, _, _, _ => none
  | k + 1, x0, x1, x7, x8 => if x7 > 249 then (rivuletref01_Get.j3 k x0 x1 x7 (wrap64 (x7 - 247))) else (rivuletref01_Get.j3 k x0 x1 x7 x8)
def rivuletref01_Get.j3 : Nat → ByteArray → Int → Int → Int → Option (Int × Int × Int)
  | 0, _, _, _, _ => none
  | k + 1, x0, x1, x7, x8 => if (wrap64 ((wrap64 ((x0.size : Int) - x1)) - 1)) < x8 then (some (0, 0, 3)) else (rivuletref01_Get.l0 k x0 x1 x7 x8 0 0)
def rivuletref01_Get.l0 : Nat → ByteArray → Int → Int → Int → Int → Int → Option (Int × Int × Int)
  | 0, _, _, _, _, _, _ => none
  | k + 1, x0, x1, x7, x8, x9, x10 => if x10 < x8 then (if 0 ≤ (wrap64 ((wrap64 (x1 + 1)) + x10)) then (if (wrap64 ((wrap64 (x1 + 1)) + x10)) < (x0.size : Int) then (rivuletref01_Get.l0 k x0 x1 x7 x8 (IntKind.u64.wrap ((IntKind.u64.wrap (256 * x9)) + (IntKind.u64.wrap (bt x0 (wrap64 ((wrap64 (x1 + 1)) + x10)))))) (wrap64 (x10 + 1))) else (none)) else (none)) else (if x8 = 0 then (rivuletref01_Get.j5 k x0 x1 x7 x8 (IntKind.u64.wrap (x7))) else (rivuletref01_Get.j5 k x0 x1 x7 x8 x9))
def rivuletref01_Get.j5 : Nat → ByteArray → Int → Int → Int → Int → Option (Int × Int × Int)
  | 0, _, _, _, _, _ => none
  | k + 1, x0, x1, x7, x8, x9 => if x8 = 1 then (rivuletref01_Get.j6 k x0 x1 x8 (IntKind.u64.wrap ((IntKind.u64.wrap (240 + (IntKind.u64.wrap (256 * (IntKind.u64.wrap (wrap64 (x7 - 241))))))) + x9))) else (rivuletref01_Get.j6 k x0 x1 x8 x9)
def rivuletref01_Get.j6 : Nat → ByteArray → Int → Int → Int → Option (Int × Int × Int)
  | 0, _, _, _, _ => none
  | k + 1, x0, x1, x8, x9 => if x8 = 2 then ((rivuletref01_Put.f k (IntKind.u64.wrap (2288 + x9))).bind fun t159 => (if 0 ≤ x1 then (if x1 ≤ (wrap64 ((wrap64 (x1 + 1)) + x8)) then (if (wrap64 ((wrap64 (x1 + 1)) + x8)) ≤ (x0.size : Int) then (if t159.toList = (x0.extract (x1 : Int).toNat ((wrap64 ((wrap64 (x1 + 1)) + x8)) : Int).toNat).toList then (some (IntKind.u64.wrap (2288 + x9), wrap64 ((wrap64 (x1 + 1)) + x8), 0)) else (some (0, 0, 4))) else (none)) else (none)) else (none))) else ((rivuletref01_Put.f k x9).bind fun t160 => (if 0 ≤ x1 then (if x1 ≤ (wrap64 ((wrap64 (x1 + 1)) + x8)) then (if (wrap64 ((wrap64 (x1 + 1)) + x8)) ≤ (x0.size : Int) then (if t160.toList = (x0.extract (x1 : Int).toNat ((wrap64 ((wrap64 (x1 + 1)) + x8)) : Int).toNat).toList then (some (x9, wrap64 ((wrap64 (x1 + 1)) + x8), 0)) else (some (0, 0, 4))) else (none)) else (none)) else (none)))
end
def rivuletref01_Get.f (k : Nat) (a0 : ByteArray) (a1 : Int) : Option (Int × Int × Int) := if a1 < 0 then (rivuletref01_Get.j0 k a0 a1 true) else (rivuletref01_Get.j0 k a0 a1 (decide (a1 > (a0.size : Int))))
end Go.Proofs.Ytkiepnmbimkadaa.Pr
