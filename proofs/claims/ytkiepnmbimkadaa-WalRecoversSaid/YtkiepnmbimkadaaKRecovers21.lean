import Derived.Test.YtkiepnmbimkadaaKRecovers16
import Derived.Test.YtkiepnmbimkadaaKRecovers20
namespace Go.Proofs.Ytkiepnmbimkadaa.Pr
open Go.RowKit Go.Proofs.YtkiepnmbimkadaaW.PrintWords Go.Proofs.YtkiepnmbimkadaaW.PrintLast Go.Proofs.YtkiepnmbimkadaaW.PrintMore
attribute [local go_sem] max2_int min2_int max_two min_two max_three min_three max_four min_four
set_option linter.unusedVariables false
set_option linter.unusedSimpArgs false
def rivuletref01_Cut.f (k : Nat) (a0 : ByteArray) (a1 : Int) : Option (ByteArray × Int × Int) := (rivuletref01_Get.f k a0 a1).bind fun bt161 => (if bt161.2.2 = 0 then (if bt161.1 > 65536 then (some ((⟨#[]⟩ : ByteArray), 0, 2)) else (if (wrap64 (bt161.2.1 + (wrap64 (bt161.1)))) > (a0.size : Int) then (some ((⟨#[]⟩ : ByteArray), 0, 3)) else (if 0 ≤ bt161.2.1 then (if bt161.2.1 ≤ (wrap64 (bt161.2.1 + (wrap64 (bt161.1)))) then (if (wrap64 (bt161.2.1 + (wrap64 (bt161.1)))) ≤ (a0.size : Int) then (some (a0.extract (bt161.2.1 : Int).toNat ((wrap64 (bt161.2.1 + (wrap64 (bt161.1)))) : Int).toNat, wrap64 (bt161.2.1 + (wrap64 (bt161.1))), 0)) else (none)) else (none)) else (none)))) else (some ((⟨#[]⟩ : ByteArray), 0, bt161.2.2)))
def rivuletref02_four.f (a0 : Int) : Option (ByteArray) := some (strOfNums (([(Int.tmod a0 256) % 256, ((Int.tdiv a0 256) % 4294967296) % 256, ((Int.tdiv a0 65536) % 4294967296) % 256, ((Int.tdiv a0 16777216) % 4294967296) % 256] : List Int)))
def rivuletref02_step.l0 : Nat → Int → Int → Option (Int)
  | 0, _, _ => none
  | k + 1, x0, x5 => if x5 < 8 then (if (Int.tmod x0 2) = 1 then (rivuletref02_step.l0 k (Go.bits .xor .u32 ((Int.tdiv x0 2) % 4294967296) 3988292384) (wrap64 (x5 + 1))) else (rivuletref02_step.l0 k ((Int.tdiv x0 2) % 4294967296) (wrap64 (x5 + 1)))) else (some x0)
def rivuletref02_step.f (k : Nat) (a0 : Int) (a1 : Int) : Option (Int) := rivuletref02_step.l0 k (Go.bits .xor .u32 a0 ((a1) % 4294967296)) 0
def rivuletref02_Add.l0 : Nat → ByteArray → Int → Int → Option (Int)
  | 0, _, _, _ => none
  | k + 1, x1, x5, x6 => if x6 < (x1.size : Int) then (if 0 ≤ x6 then ((rivuletref02_step.f k x5 (bt x1 x6)).bind fun t167 => (rivuletref02_Add.l0 k x1 t167 (wrap64 (x6 + 1)))) else (none)) else (some ((4294967295 - x5) % 4294967296))
def rivuletref02_Add.f (k : Nat) (a0 : Int) (a1 : ByteArray) : Option (Int) := rivuletref02_Add.l0 k a1 ((4294967295 - a0) % 4294967296) 0
def rivuletref02_Sum.f (k : Nat) (a0 : ByteArray) : Option (Int) := (rivuletref02_Add.f k 0 a0).bind fun t168 => (some t168)
def rivuletref02_Open.f (k : Nat) (a0 : ByteArray) (a1 : Int) : Option (ByteArray × Int × Int) := (rivuletref01_Cut.f k a0 a1).bind fun bt169 => (if bt169.2.2 = 0 then (if (wrap64 (bt169.2.1 + 4)) > (a0.size : Int) then (some ((⟨#[]⟩ : ByteArray), 0, 3)) else (if 0 ≤ bt169.2.1 then (if bt169.2.1 ≤ (wrap64 (bt169.2.1 + 4)) then (if (wrap64 (bt169.2.1 + 4)) ≤ (a0.size : Int) then ((rivuletref02_Sum.f k bt169.1).bind fun t172 => ((rivuletref02_four.f t172).bind fun t173 => (if (a0.extract (bt169.2.1 : Int).toNat ((wrap64 (bt169.2.1 + 4)) : Int).toNat).toList = t173.toList then (some (bt169.1, wrap64 (bt169.2.1 + 4), 0)) else (some ((⟨#[]⟩ : ByteArray), 0, 5))))) else (none)) else (none)) else (none))) else (some ((⟨#[]⟩ : ByteArray), 0, bt169.2.2)))
end Go.Proofs.Ytkiepnmbimkadaa.Pr
