import Derived.Test.YtdoaomoocikmaaaDoorKSame33
import Derived.Test.YtdoaomoocikmaaaDoorKSame34
import Derived.Test.YtdoaomoocikmaaaDoorKSame37
namespace Go.Proofs.YtdoaomoocikmaaaDoor.Pr
open Go.RowKit Go.Proofs.YtdoaomoocikmaaaDoorW.PrintWords Go.Proofs.YtdoaomoocikmaaaDoorW.PrintLast Go.Proofs.YtdoaomoocikmaaaDoorW.PrintMore
attribute [local go_sem] max2_int min2_int max_two min_two max_three min_three max_four min_four
set_option linter.unusedVariables false
set_option linter.unusedSimpArgs false
attribute [local go_sem high] eqA23
def rivuletlaw06_fixed.f (k : Nat)  : Option (Bool) := (event_Put.f 1 2 (⟨#[97]⟩ : ByteArray) (⟨#[120]⟩ : ByteArray) 3).bind fun t155 => (if 1 + t155.size ≤ 9223372036854775807 then ((event_Get.f ((⟨#[122]⟩ : ByteArray) ++ t155) 1).bind fun bt156 => ((event_Get.f (⟨#[1, 0, 3, 1, 97, 1, 120]⟩ : ByteArray) 0).bind fun bt164 => ((event_Get.f (⟨#[1, 2]⟩ : ByteArray) 0).bind fun bt172 => ((event_Cut.f (⟨#[2, 0, 5, 3, 1]⟩ : ByteArray) 0).bind fun bt180 => ((event_Cut.f (⟨#[2, 3, 5, 3, 1]⟩ : ByteArray) 0).bind fun bt185 => ((event_Cut.f (⟨#[33]⟩ : ByteArray) 0).bind fun bt190 => (if t155.toList = ([1, 2, 3, 1, 97, 1, 120] : List UInt8) then (if (bt156.1 == 1 && (bt156.2.1 == 2 && (bt156.2.2.1.toList == ([97] : List UInt8) && (bt156.2.2.2.1.toList == ([120] : List UInt8) && (bt156.2.2.2.2.1 == 3))))) = true then (if bt156.2.2.2.2.2.1 = 8 then (if bt156.2.2.2.2.2.2 = 0 then (if bt164.2.2.2.2.2.2 = 4 then (if bt172.2.2.2.2.2.2 = 3 then ((rivuletref06_Equal.f k bt180.1 (([(⟨0, 5⟩ : S55), (⟨3, 1⟩ : S55)] : List (S55)))).bind fun t198 => (if t198 = true then (if bt180.2.1 = 5 then (if bt180.2.2 = 0 then (if bt185.2.2 = 4 then (if bt190.2.2 = 2 then ((event_Right.f 1 2 (⟨#[97]⟩ : ByteArray) (⟨#[120]⟩ : ByteArray) 3).bind fun t199 => (if t199 = true then ((event_Right.f 0 0 (⟨#[]⟩ : ByteArray) (⟨#[]⟩ : ByteArray) 0).bind fun t200 => (if t200 = true then (some false) else ((event_Age.f 1 2 (⟨#[97]⟩ : ByteArray) (⟨#[120]⟩ : ByteArray) 3 2).bind fun bt201 => (if bt201.2.2.2.2 = 1 then ((event_Age.f 1 2 (⟨#[97]⟩ : ByteArray) (⟨#[120]⟩ : ByteArray) 3 9).bind fun bt206 => (if bt206.2.2.2.2 = 0 then ((event_Age.f 1 2 (⟨#[97]⟩ : ByteArray) (⟨#[120]⟩ : ByteArray) 3 (-1)).bind fun bt211 => (if (bt211.1 == 1 && (bt211.2.1 == 2 && (bt211.2.2.1.toList == ([97] : List UInt8) && (bt211.2.2.2.1.toList == ([120] : List UInt8) && (bt211.2.2.2.2 == 3))))) = true then ((event_Age.f 1 2 (⟨#[97]⟩ : ByteArray) (⟨#[120]⟩ : ByteArray) 3 1).bind fun bt216 => ((event_Same.f 1 2 (⟨#[97]⟩ : ByteArray) (⟨#[120]⟩ : ByteArray) 3 bt216.1 bt216.2.1 bt216.2.2.1 bt216.2.2.2.1 bt216.2.2.2.2).bind fun t221 => (if t221 = true then ((event_Show.f 1 2 (⟨#[97]⟩ : ByteArray) (⟨#[120]⟩ : ByteArray) 3).bind fun t222 => (if t222.toList = ([49, 58, 50, 32, 97, 32, 49, 32, 51] : List UInt8) then ((event_Marks.f bt180.1).bind fun t223 => (if t223.toList = ([2, 0, 5, 3, 1] : List UInt8) then ((event_Sorted.f (([(⟨0, 0⟩ : S55)] : List (S55)))).bind fun t227 => (some (!t227))) else (some false))) else (some false))) else (some false)))) else (some false))) else (some false))) else (some false))))) else (some false))) else (some false)) else (some false)) else (some false)) else (some false)) else (some false))) else (some false)) else (some false)) else (some false)) else (some false)) else (some false)) else (some false)))))))) else (none))
theorem rivuletlaw06_fixed.mono : ∀ k, LeO (rivuletlaw06_fixed.f k ) (rivuletlaw06_fixed.f (k + 1) ) := by
  intro  k
  unfold rivuletlaw06_fixed.f
  repeat' first
      | (with_reducible exact rivuletref06_Equal.mono _ _ _)
      | (with_reducible exact LeO.refl _)
      | (with_reducible exact LeO.none _)
      | (with_reducible refine LeO.ite ?_ ?_)
      | (with_reducible refine LeO.bind ?_ (fun _ => ?_))
      | exact rivuletref06_Equal.mono _ _ _
      | exact LeO.none _
      | refine LeO.ite ?_ ?_
      | refine LeO.bind ?_ (fun _ => ?_)
theorem run_field_ttl (a b c d e : Value) (w : World) : Sem.run Tryd.prog (Instr.field 23 (.agg #[a, b, c, d, e]) 4) w = .ok e w := by
  have hu := Tryd.underlying23
  have hu3 := Tryd.underlying3
  simp [Instr.field, part, asAgg, go_sem, hu, hu3]
attribute [local go_sem] run_field_ttl
theorem rivuletlaw06_fixed.trues (k : Nat) (r : Bool) (h : rivuletlaw06_fixed.f k = some r) : r = true := by
  have e : rivuletlaw06_fixed.f 4 = some true := by
    unfold rivuletlaw06_fixed.f
    simp only [EF.f12, VF.toList_eq]
    decide +kernel
  have h1 := at_rounds rivuletlaw06_fixed.mono (Nat.le_add_right k 4) h
  have h2 := at_rounds rivuletlaw06_fixed.mono (Nat.le_add_left 4 k) e
  exact Option.some.inj (h1.symm.trans h2)
def rivuletlaw06_fixed.T9 : Bool × List (List Nat × List Nat) := (true, [([], []), ([0], [0]), ([1], [1]), ([2], [2]), ([2], [2]), ([3, 4, 2], [2, 3, 4]), ([2, 5], [2, 5]), ([6, 2], [6]), ([7], [7]), ([8, 7], [7, 8]), ([7, 9], [7, 9]), ([10, 7], [10]), ([11], [11]), ([12, 11], [11, 12]), ([11, 13], [11, 13]), ([14, 11], [14]), ([15], [15]), ([16, 15], [15, 16]), ([15, 17], [15, 17]), ([18, 15], [18]), ([19], [19]), ([20, 19], [19, 20]), ([19, 21], [19, 21]), ([22, 19], [22]), ([23], [23]), ([23], [23]), ([23], [23]), ([25, 26, 23], [23, 25, 26]), ([24, 27, 23, 23], [23, 24, 27]), ([23, 28], [23, 28]), ([29, 28], [29]), ([30], [30]), ([31, 30], [30, 31]), ([30, 32], [30, 32]), ([33, 30], [33]), ([34], [34]), ([35, 34], [34, 35]), ([34, 36], [34, 36]), ([37, 34], [37]), ([38], [38]), ([39, 38], [38, 39]), ([38, 40], [38, 40]), ([41, 38], [41]), ([42], [42]), ([43, 42], [42, 43]), ([42, 44], [42, 44]), ([45, 42], [45]), ([46], [46]), ([47, 46, 46], [46, 47]), ([46, 48], [46, 48]), ([49, 48], [49]), ([50], [50]), ([51, 50, 50], [50, 51]), ([52, 50], [50, 52]), ([50, 53], [50, 53]), ([54, 52], [54]), ([55], [55]), ([56, 55, 55], [55, 56]), ([57, 55], [55, 57]), ([58, 55], [55, 58]), ([55, 59], [55, 59]), ([60, 57], [60]), ([61], [61]), ([62, 61, 61], [61, 62]), ([63, 61], [61, 63]), ([64, 61], [61, 64]), ([61, 65], [61, 65]), ([66, 63], [66]), ([67], [67]), ([68, 67, 67], [67, 68]), ([67], [67]), ([69, 70, 67], [67, 69, 70]), ([67, 71], [67, 71]), ([72, 69], [72]), ([73], [73]), ([73], [73]), ([75, 73, 73], [73, 75]), ([74, 76, 76, 73], [73, 74, 76]), ([73, 77], [73, 77]), ([78, 77], [78]), ([79], [79]), ([80, 79, 79], [79, 80]), ([81, 79], [79, 81]), ([79, 82], [79, 82]), ([83, 81], [83]), ([84], [84]), ([85, 84, 84], [84, 85]), ([86, 84], [84, 86]), ([84, 87], [84, 87]), ([88, 86], [88]), ([89], [89]), ([90, 89], [89, 90]), ([91, 89, 89], [89, 91]), ([92, 89], [89, 92]), ([89, 93], [89, 93]), ([94, 92, 0, 1, 2, 3, 4, 5, 6, 7, 8, 9, 10, 11, 12, 13, 14, 15, 16, 17, 18, 19, 20, 21, 22, 23, 24, 25, 26, 27, 28, 29, 30, 31, 32, 33, 34, 35, 36, 37, 38, 39, 40, 41, 42, 43, 44, 45, 46, 47, 48, 49, 50, 51, 52, 53, 54, 55, 56, 57, 58, 59, 60, 61, 62, 63, 64, 65, 66, 67, 68, 69, 70, 71, 72, 73, 74, 75, 76, 77, 78, 79, 80, 81, 82, 83, 84, 85, 86, 87, 88, 89, 90, 91, 92, 93, 94], [94])])
def rivuletlaw06_fixed.B9 : List Nat := [0, 1, 3, 7, 7, 31, 63, 127, 255, 511, 1023, 2047, 4095, 8191, 16383, 32767, 65535, 131071, 262143, 524287, 1048575, 2097151, 4194303, 8388607, 16777215, 16777215, 16777215, 117440511, 268435455, 536870911, 1073741823, 2147483647, 4294967295, 8589934591, 17179869183, 34359738367, 68719476735, 137438953471, 274877906943, 549755813887, 1099511627775, 2199023255551, 4398046511103, 8796093022207, 17592186044415, 35184372088831, 70368744177663, 140737488355327, 281474976710655, 562949953421311, 1125899906842623, 2251799813685247, 4503599627370495, 9007199254740991, 18014398509481983, 36028797018963967, 72057594037927935, 144115188075855871, 288230376151711743, 576460752303423487, 1152921504606846975, 2305843009213693951, 4611686018427387903, 9223372036854775807, 18446744073709551615, 36893488147419103231, 73786976294838206463, 147573952589676412927, 295147905179352825855, 590295810358705651711, 295147905179352825855, 2361183241434822606847, 4722366482869645213695, 9444732965739290427391, 18889465931478580854783, 18889465931478580854783, 56668397794435742564351, 151115727451828646838271, 302231454903657293676543, 604462909807314587353087, 1208925819614629174706175, 2417851639229258349412351, 4835703278458516698824703, 9671406556917033397649407, 19342813113834066795298815, 38685626227668133590597631, 77371252455336267181195263, 154742504910672534362390527, 309485009821345068724781055, 618970019642690137449562111, 1237940039285380274899124223, 2475880078570760549798248447, 4951760157141521099596496895, 9903520314283042199192993791, 19807040628566084398385987583, 39614081257132168796771975167]
theorem rivuletlaw06_fixed.tab9 : rtab .any (opsOf Tryd.f21 9) = rivuletlaw06_fixed.T9 := by kernel_rfl
theorem rivuletlaw06_fixed.bits9 : waitsOk rivuletlaw06_fixed.T9.2 rivuletlaw06_fixed.B9 = true := by kernel_rfl
set_option maxHeartbeats 8000000 in
set_option maxRecDepth 100000 in
theorem rivuletlaw06_fixed.calls (k : Nat)  (r : Bool) (w : World) (h : rivuletlaw06_fixed.f k  = some r) :
    Calls Tryd.prog 21 #[] w fun e w' => e = .returned (.bool r) ∧ Below w.heap.size w w' := by
  have hu23 := Tryd.underlying23
  have hu55 := Tryd.underlying55
  have HB := Aside0.mk (Below.refl w.heap.size w)
  have hr_ := Aside0.mk (rivuletlaw06_fixed.trues k r h)
  have H : ((event_Put.f 1 2 (⟨#[97]⟩ : ByteArray) (⟨#[120]⟩ : ByteArray) 3).bind fun t155 => (if 1 + t155.size ≤ 9223372036854775807 then ((event_Get.f ((⟨#[122]⟩ : ByteArray) ++ t155) 1).bind fun bt156 => ((event_Get.f (⟨#[1, 0, 3, 1, 97, 1, 120]⟩ : ByteArray) 0).bind fun bt164 => ((event_Get.f (⟨#[1, 2]⟩ : ByteArray) 0).bind fun bt172 => ((event_Cut.f (⟨#[2, 0, 5, 3, 1]⟩ : ByteArray) 0).bind fun bt180 => ((event_Cut.f (⟨#[2, 3, 5, 3, 1]⟩ : ByteArray) 0).bind fun bt185 => ((event_Cut.f (⟨#[33]⟩ : ByteArray) 0).bind fun bt190 => (if t155.toList = ([1, 2, 3, 1, 97, 1, 120] : List UInt8) then (if (bt156.1 == 1 && (bt156.2.1 == 2 && (bt156.2.2.1.toList == ([97] : List UInt8) && (bt156.2.2.2.1.toList == ([120] : List UInt8) && (bt156.2.2.2.2.1 == 3))))) = true then (if bt156.2.2.2.2.2.1 = 8 then (if bt156.2.2.2.2.2.2 = 0 then (if bt164.2.2.2.2.2.2 = 4 then (if bt172.2.2.2.2.2.2 = 3 then ((rivuletref06_Equal.f k bt180.1 (([(⟨0, 5⟩ : S55), (⟨3, 1⟩ : S55)] : List (S55)))).bind fun t198 => (if t198 = true then (if bt180.2.1 = 5 then (if bt180.2.2 = 0 then (if bt185.2.2 = 4 then (if bt190.2.2 = 2 then ((event_Right.f 1 2 (⟨#[97]⟩ : ByteArray) (⟨#[120]⟩ : ByteArray) 3).bind fun t199 => (if t199 = true then ((event_Right.f 0 0 (⟨#[]⟩ : ByteArray) (⟨#[]⟩ : ByteArray) 0).bind fun t200 => (if t200 = true then (some false) else ((event_Age.f 1 2 (⟨#[97]⟩ : ByteArray) (⟨#[120]⟩ : ByteArray) 3 2).bind fun bt201 => (if bt201.2.2.2.2 = 1 then ((event_Age.f 1 2 (⟨#[97]⟩ : ByteArray) (⟨#[120]⟩ : ByteArray) 3 9).bind fun bt206 => (if bt206.2.2.2.2 = 0 then ((event_Age.f 1 2 (⟨#[97]⟩ : ByteArray) (⟨#[120]⟩ : ByteArray) 3 (-1)).bind fun bt211 => (if (bt211.1 == 1 && (bt211.2.1 == 2 && (bt211.2.2.1.toList == ([97] : List UInt8) && (bt211.2.2.2.1.toList == ([120] : List UInt8) && (bt211.2.2.2.2 == 3))))) = true then ((event_Age.f 1 2 (⟨#[97]⟩ : ByteArray) (⟨#[120]⟩ : ByteArray) 3 1).bind fun bt216 => ((event_Same.f 1 2 (⟨#[97]⟩ : ByteArray) (⟨#[120]⟩ : ByteArray) 3 bt216.1 bt216.2.1 bt216.2.2.1 bt216.2.2.2.1 bt216.2.2.2.2).bind fun t221 => (if t221 = true then ((event_Show.f 1 2 (⟨#[97]⟩ : ByteArray) (⟨#[120]⟩ : ByteArray) 3).bind fun t222 => (if t222.toList = ([49, 58, 50, 32, 97, 32, 49, 32, 51] : List UInt8) then ((event_Marks.f bt180.1).bind fun t223 => (if t223.toList = ([2, 0, 5, 3, 1] : List UInt8) then ((event_Sorted.f (([(⟨0, 0⟩ : S55)] : List (S55)))).bind fun t227 => (some (!t227))) else (some false))) else (some false))) else (some false)))) else (some false))) else (some false))) else (some false))))) else (some false))) else (some false)) else (some false)) else (some false)) else (some false)) else (some false))) else (some false)) else (some false)) else (some false)) else (some false)) else (some false)) else (some false)))))))) else (none))) = some r := h
  clear h
  replace H := Option.bind_eq_some_iff.mp H
  obtain ⟨t155, A10, H⟩ := H
  replace H : (if 1 + t155.size ≤ 9223372036854775807 then ((event_Get.f ((⟨#[122]⟩ : ByteArray) ++ t155) 1).bind fun bt156 => ((event_Get.f (⟨#[1, 0, 3, 1, 97, 1, 120]⟩ : ByteArray) 0).bind fun bt164 => ((event_Get.f (⟨#[1, 2]⟩ : ByteArray) 0).bind fun bt172 => ((event_Cut.f (⟨#[2, 0, 5, 3, 1]⟩ : ByteArray) 0).bind fun bt180 => ((event_Cut.f (⟨#[2, 3, 5, 3, 1]⟩ : ByteArray) 0).bind fun bt185 => ((event_Cut.f (⟨#[33]⟩ : ByteArray) 0).bind fun bt190 => (if t155.toList = ([1, 2, 3, 1, 97, 1, 120] : List UInt8) then (if (bt156.1 == 1 && (bt156.2.1 == 2 && (bt156.2.2.1.toList == ([97] : List UInt8) && (bt156.2.2.2.1.toList == ([120] : List UInt8) && (bt156.2.2.2.2.1 == 3))))) = true then (if bt156.2.2.2.2.2.1 = 8 then (if bt156.2.2.2.2.2.2 = 0 then (if bt164.2.2.2.2.2.2 = 4 then (if bt172.2.2.2.2.2.2 = 3 then ((rivuletref06_Equal.f k bt180.1 (([(⟨0, 5⟩ : S55), (⟨3, 1⟩ : S55)] : List (S55)))).bind fun t198 => (if t198 = true then (if bt180.2.1 = 5 then (if bt180.2.2 = 0 then (if bt185.2.2 = 4 then (if bt190.2.2 = 2 then ((event_Right.f 1 2 (⟨#[97]⟩ : ByteArray) (⟨#[120]⟩ : ByteArray) 3).bind fun t199 => (if t199 = true then ((event_Right.f 0 0 (⟨#[]⟩ : ByteArray) (⟨#[]⟩ : ByteArray) 0).bind fun t200 => (if t200 = true then (some false) else ((event_Age.f 1 2 (⟨#[97]⟩ : ByteArray) (⟨#[120]⟩ : ByteArray) 3 2).bind fun bt201 => (if bt201.2.2.2.2 = 1 then ((event_Age.f 1 2 (⟨#[97]⟩ : ByteArray) (⟨#[120]⟩ : ByteArray) 3 9).bind fun bt206 => (if bt206.2.2.2.2 = 0 then ((event_Age.f 1 2 (⟨#[97]⟩ : ByteArray) (⟨#[120]⟩ : ByteArray) 3 (-1)).bind fun bt211 => (if (bt211.1 == 1 && (bt211.2.1 == 2 && (bt211.2.2.1.toList == ([97] : List UInt8) && (bt211.2.2.2.1.toList == ([120] : List UInt8) && (bt211.2.2.2.2 == 3))))) = true then ((event_Age.f 1 2 (⟨#[97]⟩ : ByteArray) (⟨#[120]⟩ : ByteArray) 3 1).bind fun bt216 => ((event_Same.f 1 2 (⟨#[97]⟩ : ByteArray) (⟨#[120]⟩ : ByteArray) 3 bt216.1 bt216.2.1 bt216.2.2.1 bt216.2.2.2.1 bt216.2.2.2.2).bind fun t221 => (if t221 = true then ((event_Show.f 1 2 (⟨#[97]⟩ : ByteArray) (⟨#[120]⟩ : ByteArray) 3).bind fun t222 => (if t222.toList = ([49, 58, 50, 32, 97, 32, 49, 32, 51] : List UInt8) then ((event_Marks.f bt180.1).bind fun t223 => (if t223.toList = ([2, 0, 5, 3, 1] : List UInt8) then ((event_Sorted.f (([(⟨0, 0⟩ : S55)] : List (S55)))).bind fun t227 => (some (!t227))) else (some false))) else (some false))) else (some false)))) else (some false))) else (some false))) else (some false))))) else (some false))) else (some false)) else (some false)) else (some false)) else (some false)) else (some false))) else (some false)) else (some false)) else (some false)) else (some false)) else (some false)) else (some false)))))))) else (none)) = some r := H
  have A1 := Aside0.mk A10
  clear A10
  by_cases c2 : 1 + t155.size ≤ 9223372036854775807
  · rw [if_pos c2] at H
    have c2b0 := eq_true c2
    have c2b1 : decide (1 + t155.size ≤ 9223372036854775807) = true := decide_eq_true c2
    try have c2b2 : (9223372036854775807 < 1 + t155.size) = False := eq_false (Nat.not_lt.2 c2)
    replace H := Option.bind_eq_some_iff.mp H
    obtain ⟨⟨t156, t157, t158, t159, t160, t161, t162⟩, A30, H⟩ := H
    replace H : ((event_Get.f (⟨#[1, 0, 3, 1, 97, 1, 120]⟩ : ByteArray) 0).bind fun bt164 => ((event_Get.f (⟨#[1, 2]⟩ : ByteArray) 0).bind fun bt172 => ((event_Cut.f (⟨#[2, 0, 5, 3, 1]⟩ : ByteArray) 0).bind fun bt180 => ((event_Cut.f (⟨#[2, 3, 5, 3, 1]⟩ : ByteArray) 0).bind fun bt185 => ((event_Cut.f (⟨#[33]⟩ : ByteArray) 0).bind fun bt190 => (if t155.toList = ([1, 2, 3, 1, 97, 1, 120] : List UInt8) then (if (t156 == 1 && (t157 == 2 && (t158.toList == ([97] : List UInt8) && (t159.toList == ([120] : List UInt8) && (t160 == 3))))) = true then (if t161 = 8 then (if t162 = 0 then (if bt164.2.2.2.2.2.2 = 4 then (if bt172.2.2.2.2.2.2 = 3 then ((rivuletref06_Equal.f k bt180.1 (([(⟨0, 5⟩ : S55), (⟨3, 1⟩ : S55)] : List (S55)))).bind fun t198 => (if t198 = true then (if bt180.2.1 = 5 then (if bt180.2.2 = 0 then (if bt185.2.2 = 4 then (if bt190.2.2 = 2 then ((event_Right.f 1 2 (⟨#[97]⟩ : ByteArray) (⟨#[120]⟩ : ByteArray) 3).bind fun t199 => (if t199 = true then ((event_Right.f 0 0 (⟨#[]⟩ : ByteArray) (⟨#[]⟩ : ByteArray) 0).bind fun t200 => (if t200 = true then (some false) else ((event_Age.f 1 2 (⟨#[97]⟩ : ByteArray) (⟨#[120]⟩ : ByteArray) 3 2).bind fun bt201 => (if bt201.2.2.2.2 = 1 then ((event_Age.f 1 2 (⟨#[97]⟩ : ByteArray) (⟨#[120]⟩ : ByteArray) 3 9).bind fun bt206 => (if bt206.2.2.2.2 = 0 then ((event_Age.f 1 2 (⟨#[97]⟩ : ByteArray) (⟨#[120]⟩ : ByteArray) 3 (-1)).bind fun bt211 => (if (bt211.1 == 1 && (bt211.2.1 == 2 && (bt211.2.2.1.toList == ([97] : List UInt8) && (bt211.2.2.2.1.toList == ([120] : List UInt8) && (bt211.2.2.2.2 == 3))))) = true then ((event_Age.f 1 2 (⟨#[97]⟩ : ByteArray) (⟨#[120]⟩ : ByteArray) 3 1).bind fun bt216 => ((event_Same.f 1 2 (⟨#[97]⟩ : ByteArray) (⟨#[120]⟩ : ByteArray) 3 bt216.1 bt216.2.1 bt216.2.2.1 bt216.2.2.2.1 bt216.2.2.2.2).bind fun t221 => (if t221 = true then ((event_Show.f 1 2 (⟨#[97]⟩ : ByteArray) (⟨#[120]⟩ : ByteArray) 3).bind fun t222 => (if t222.toList = ([49, 58, 50, 32, 97, 32, 49, 32, 51] : List UInt8) then ((event_Marks.f bt180.1).bind fun t223 => (if t223.toList = ([2, 0, 5, 3, 1] : List UInt8) then ((event_Sorted.f (([(⟨0, 0⟩ : S55)] : List (S55)))).bind fun t227 => (some (!t227))) else (some false))) else (some false))) else (some false)))) else (some false))) else (some false))) else (some false))))) else (some false))) else (some false)) else (some false)) else (some false)) else (some false)) else (some false))) else (some false)) else (some false)) else (some false)) else (some false)) else (some false)) else (some false))))))) = some r := H
    have A3 := Aside0.mk A30
    clear A30
    replace H := Option.bind_eq_some_iff.mp H
    obtain ⟨⟨t164, t165, t166, t167, t168, t169, t170⟩, A40, H⟩ := H
    replace H : ((event_Get.f (⟨#[1, 2]⟩ : ByteArray) 0).bind fun bt172 => ((event_Cut.f (⟨#[2, 0, 5, 3, 1]⟩ : ByteArray) 0).bind fun bt180 => ((event_Cut.f (⟨#[2, 3, 5, 3, 1]⟩ : ByteArray) 0).bind fun bt185 => ((event_Cut.f (⟨#[33]⟩ : ByteArray) 0).bind fun bt190 => (if t155.toList = ([1, 2, 3, 1, 97, 1, 120] : List UInt8) then (if (t156 == 1 && (t157 == 2 && (t158.toList == ([97] : List UInt8) && (t159.toList == ([120] : List UInt8) && (t160 == 3))))) = true then (if t161 = 8 then (if t162 = 0 then (if t170 = 4 then (if bt172.2.2.2.2.2.2 = 3 then ((rivuletref06_Equal.f k bt180.1 (([(⟨0, 5⟩ : S55), (⟨3, 1⟩ : S55)] : List (S55)))).bind fun t198 => (if t198 = true then (if bt180.2.1 = 5 then (if bt180.2.2 = 0 then (if bt185.2.2 = 4 then (if bt190.2.2 = 2 then ((event_Right.f 1 2 (⟨#[97]⟩ : ByteArray) (⟨#[120]⟩ : ByteArray) 3).bind fun t199 => (if t199 = true then ((event_Right.f 0 0 (⟨#[]⟩ : ByteArray) (⟨#[]⟩ : ByteArray) 0).bind fun t200 => (if t200 = true then (some false) else ((event_Age.f 1 2 (⟨#[97]⟩ : ByteArray) (⟨#[120]⟩ : ByteArray) 3 2).bind fun bt201 => (if bt201.2.2.2.2 = 1 then ((event_Age.f 1 2 (⟨#[97]⟩ : ByteArray) (⟨#[120]⟩ : ByteArray) 3 9).bind fun bt206 => (if bt206.2.2.2.2 = 0 then ((event_Age.f 1 2 (⟨#[97]⟩ : ByteArray) (⟨#[120]⟩ : ByteArray) 3 (-1)).bind fun bt211 => (if (bt211.1 == 1 && (bt211.2.1 == 2 && (bt211.2.2.1.toList == ([97] : List UInt8) && (bt211.2.2.2.1.toList == ([120] : List UInt8) && (bt211.2.2.2.2 == 3))))) = true then ((event_Age.f 1 2 (⟨#[97]⟩ : ByteArray) (⟨#[120]⟩ : ByteArray) 3 1).bind fun bt216 => ((event_Same.f 1 2 (⟨#[97]⟩ : ByteArray) (⟨#[120]⟩ : ByteArray) 3 bt216.1 bt216.2.1 bt216.2.2.1 bt216.2.2.2.1 bt216.2.2.2.2).bind fun t221 => (if t221 = true then ((event_Show.f 1 2 (⟨#[97]⟩ : ByteArray) (⟨#[120]⟩ : ByteArray) 3).bind fun t222 => (if t222.toList = ([49, 58, 50, 32, 97, 32, 49, 32, 51] : List UInt8) then ((event_Marks.f bt180.1).bind fun t223 => (if t223.toList = ([2, 0, 5, 3, 1] : List UInt8) then ((event_Sorted.f (([(⟨0, 0⟩ : S55)] : List (S55)))).bind fun t227 => (some (!t227))) else (some false))) else (some false))) else (some false)))) else (some false))) else (some false))) else (some false))))) else (some false))) else (some false)) else (some false)) else (some false)) else (some false)) else (some false))) else (some false)) else (some false)) else (some false)) else (some false)) else (some false)) else (some false)))))) = some r := H
    have A4 := Aside0.mk A40
    clear A40
    replace H := Option.bind_eq_some_iff.mp H
    obtain ⟨⟨t172, t173, t174, t175, t176, t177, t178⟩, A50, H⟩ := H
    replace H : ((event_Cut.f (⟨#[2, 0, 5, 3, 1]⟩ : ByteArray) 0).bind fun bt180 => ((event_Cut.f (⟨#[2, 3, 5, 3, 1]⟩ : ByteArray) 0).bind fun bt185 => ((event_Cut.f (⟨#[33]⟩ : ByteArray) 0).bind fun bt190 => (if t155.toList = ([1, 2, 3, 1, 97, 1, 120] : List UInt8) then (if (t156 == 1 && (t157 == 2 && (t158.toList == ([97] : List UInt8) && (t159.toList == ([120] : List UInt8) && (t160 == 3))))) = true then (if t161 = 8 then (if t162 = 0 then (if t170 = 4 then (if t178 = 3 then ((rivuletref06_Equal.f k bt180.1 (([(⟨0, 5⟩ : S55), (⟨3, 1⟩ : S55)] : List (S55)))).bind fun t198 => (if t198 = true then (if bt180.2.1 = 5 then (if bt180.2.2 = 0 then (if bt185.2.2 = 4 then (if bt190.2.2 = 2 then ((event_Right.f 1 2 (⟨#[97]⟩ : ByteArray) (⟨#[120]⟩ : ByteArray) 3).bind fun t199 => (if t199 = true then ((event_Right.f 0 0 (⟨#[]⟩ : ByteArray) (⟨#[]⟩ : ByteArray) 0).bind fun t200 => (if t200 = true then (some false) else ((event_Age.f 1 2 (⟨#[97]⟩ : ByteArray) (⟨#[120]⟩ : ByteArray) 3 2).bind fun bt201 => (if bt201.2.2.2.2 = 1 then ((event_Age.f 1 2 (⟨#[97]⟩ : ByteArray) (⟨#[120]⟩ : ByteArray) 3 9).bind fun bt206 => (if bt206.2.2.2.2 = 0 then ((event_Age.f 1 2 (⟨#[97]⟩ : ByteArray) (⟨#[120]⟩ : ByteArray) 3 (-1)).bind fun bt211 => (if (bt211.1 == 1 && (bt211.2.1 == 2 && (bt211.2.2.1.toList == ([97] : List UInt8) && (bt211.2.2.2.1.toList == ([120] : List UInt8) && (bt211.2.2.2.2 == 3))))) = true then ((event_Age.f 1 2 (⟨#[97]⟩ : ByteArray) (⟨#[120]⟩ : ByteArray) 3 1).bind fun bt216 => ((event_Same.f 1 2 (⟨#[97]⟩ : ByteArray) (⟨#[120]⟩ : ByteArray) 3 bt216.1 bt216.2.1 bt216.2.2.1 bt216.2.2.2.1 bt216.2.2.2.2).bind fun t221 => (if t221 = true then ((event_Show.f 1 2 (⟨#[97]⟩ : ByteArray) (⟨#[120]⟩ : ByteArray) 3).bind fun t222 => (if t222.toList = ([49, 58, 50, 32, 97, 32, 49, 32, 51] : List UInt8) then ((event_Marks.f bt180.1).bind fun t223 => (if t223.toList = ([2, 0, 5, 3, 1] : List UInt8) then ((event_Sorted.f (([(⟨0, 0⟩ : S55)] : List (S55)))).bind fun t227 => (some (!t227))) else (some false))) else (some false))) else (some false)))) else (some false))) else (some false))) else (some false))))) else (some false))) else (some false)) else (some false)) else (some false)) else (some false)) else (some false))) else (some false)) else (some false)) else (some false)) else (some false)) else (some false)) else (some false))))) = some r := H
    have A5 := Aside0.mk A50
    clear A50
    replace H := Option.bind_eq_some_iff.mp H
    obtain ⟨⟨t180, t181, t182⟩, A60, H⟩ := H
    replace H : ((event_Cut.f (⟨#[2, 3, 5, 3, 1]⟩ : ByteArray) 0).bind fun bt185 => ((event_Cut.f (⟨#[33]⟩ : ByteArray) 0).bind fun bt190 => (if t155.toList = ([1, 2, 3, 1, 97, 1, 120] : List UInt8) then (if (t156 == 1 && (t157 == 2 && (t158.toList == ([97] : List UInt8) && (t159.toList == ([120] : List UInt8) && (t160 == 3))))) = true then (if t161 = 8 then (if t162 = 0 then (if t170 = 4 then (if t178 = 3 then ((rivuletref06_Equal.f k t180 (([(⟨0, 5⟩ : S55), (⟨3, 1⟩ : S55)] : List (S55)))).bind fun t198 => (if t198 = true then (if t181 = 5 then (if t182 = 0 then (if bt185.2.2 = 4 then (if bt190.2.2 = 2 then ((event_Right.f 1 2 (⟨#[97]⟩ : ByteArray) (⟨#[120]⟩ : ByteArray) 3).bind fun t199 => (if t199 = true then ((event_Right.f 0 0 (⟨#[]⟩ : ByteArray) (⟨#[]⟩ : ByteArray) 0).bind fun t200 => (if t200 = true then (some false) else ((event_Age.f 1 2 (⟨#[97]⟩ : ByteArray) (⟨#[120]⟩ : ByteArray) 3 2).bind fun bt201 => (if bt201.2.2.2.2 = 1 then ((event_Age.f 1 2 (⟨#[97]⟩ : ByteArray) (⟨#[120]⟩ : ByteArray) 3 9).bind fun bt206 => (if bt206.2.2.2.2 = 0 then ((event_Age.f 1 2 (⟨#[97]⟩ : ByteArray) (⟨#[120]⟩ : ByteArray) 3 (-1)).bind fun bt211 => (if (bt211.1 == 1 && (bt211.2.1 == 2 && (bt211.2.2.1.toList == ([97] : List UInt8) && (bt211.2.2.2.1.toList == ([120] : List UInt8) && (bt211.2.2.2.2 == 3))))) = true then ((event_Age.f 1 2 (⟨#[97]⟩ : ByteArray) (⟨#[120]⟩ : ByteArray) 3 1).bind fun bt216 => ((event_Same.f 1 2 (⟨#[97]⟩ : ByteArray) (⟨#[120]⟩ : ByteArray) 3 bt216.1 bt216.2.1 bt216.2.2.1 bt216.2.2.2.1 bt216.2.2.2.2).bind fun t221 => (if t221 = true then ((event_Show.f 1 2 (⟨#[97]⟩ : ByteArray) (⟨#[120]⟩ : ByteArray) 3).bind fun t222 => (if t222.toList = ([49, 58, 50, 32, 97, 32, 49, 32, 51] : List UInt8) then ((event_Marks.f t180).bind fun t223 => (if t223.toList = ([2, 0, 5, 3, 1] : List UInt8) then ((event_Sorted.f (([(⟨0, 0⟩ : S55)] : List (S55)))).bind fun t227 => (some (!t227))) else (some false))) else (some false))) else (some false)))) else (some false))) else (some false))) else (some false))))) else (some false))) else (some false)) else (some false)) else (some false)) else (some false)) else (some false))) else (some false)) else (some false)) else (some false)) else (some false)) else (some false)) else (some false)))) = some r := H
    have A6 := Aside0.mk A60
    clear A60
    replace H := Option.bind_eq_some_iff.mp H
    obtain ⟨⟨t185, t186, t187⟩, A70, H⟩ := H
    replace H : ((event_Cut.f (⟨#[33]⟩ : ByteArray) 0).bind fun bt190 => (if t155.toList = ([1, 2, 3, 1, 97, 1, 120] : List UInt8) then (if (t156 == 1 && (t157 == 2 && (t158.toList == ([97] : List UInt8) && (t159.toList == ([120] : List UInt8) && (t160 == 3))))) = true then (if t161 = 8 then (if t162 = 0 then (if t170 = 4 then (if t178 = 3 then ((rivuletref06_Equal.f k t180 (([(⟨0, 5⟩ : S55), (⟨3, 1⟩ : S55)] : List (S55)))).bind fun t198 => (if t198 = true then (if t181 = 5 then (if t182 = 0 then (if t187 = 4 then (if bt190.2.2 = 2 then ((event_Right.f 1 2 (⟨#[97]⟩ : ByteArray) (⟨#[120]⟩ : ByteArray) 3).bind fun t199 => (if t199 = true then ((event_Right.f 0 0 (⟨#[]⟩ : ByteArray) (⟨#[]⟩ : ByteArray) 0).bind fun t200 => (if t200 = true then (some false) else ((event_Age.f 1 2 (⟨#[97]⟩ : ByteArray) (⟨#[120]⟩ : ByteArray) 3 2).bind fun bt201 => (if bt201.2.2.2.2 = 1 then ((event_Age.f 1 2 (⟨#[97]⟩ : ByteArray) (⟨#[120]⟩ : ByteArray) 3 9).bind fun bt206 => (if bt206.2.2.2.2 = 0 then ((event_Age.f 1 2 (⟨#[97]⟩ : ByteArray) (⟨#[120]⟩ : ByteArray) 3 (-1)).bind fun bt211 => (if (bt211.1 == 1 && (bt211.2.1 == 2 && (bt211.2.2.1.toList == ([97] : List UInt8) && (bt211.2.2.2.1.toList == ([120] : List UInt8) && (bt211.2.2.2.2 == 3))))) = true then ((event_Age.f 1 2 (⟨#[97]⟩ : ByteArray) (⟨#[120]⟩ : ByteArray) 3 1).bind fun bt216 => ((event_Same.f 1 2 (⟨#[97]⟩ : ByteArray) (⟨#[120]⟩ : ByteArray) 3 bt216.1 bt216.2.1 bt216.2.2.1 bt216.2.2.2.1 bt216.2.2.2.2).bind fun t221 => (if t221 = true then ((event_Show.f 1 2 (⟨#[97]⟩ : ByteArray) (⟨#[120]⟩ : ByteArray) 3).bind fun t222 => (if t222.toList = ([49, 58, 50, 32, 97, 32, 49, 32, 51] : List UInt8) then ((event_Marks.f t180).bind fun t223 => (if t223.toList = ([2, 0, 5, 3, 1] : List UInt8) then ((event_Sorted.f (([(⟨0, 0⟩ : S55)] : List (S55)))).bind fun t227 => (some (!t227))) else (some false))) else (some false))) else (some false)))) else (some false))) else (some false))) else (some false))))) else (some false))) else (some false)) else (some false)) else (some false)) else (some false)) else (some false))) else (some false)) else (some false)) else (some false)) else (some false)) else (some false)) else (some false))) = some r := H
    have A7 := Aside0.mk A70
    clear A70
    replace H := Option.bind_eq_some_iff.mp H
    obtain ⟨⟨t190, t191, t192⟩, A80, H⟩ := H
    replace H : (if t155.toList = ([1, 2, 3, 1, 97, 1, 120] : List UInt8) then (if (t156 == 1 && (t157 == 2 && (t158.toList == ([97] : List UInt8) && (t159.toList == ([120] : List UInt8) && (t160 == 3))))) = true then (if t161 = 8 then (if t162 = 0 then (if t170 = 4 then (if t178 = 3 then ((rivuletref06_Equal.f k t180 (([(⟨0, 5⟩ : S55), (⟨3, 1⟩ : S55)] : List (S55)))).bind fun t198 => (if t198 = true then (if t181 = 5 then (if t182 = 0 then (if t187 = 4 then (if t192 = 2 then ((event_Right.f 1 2 (⟨#[97]⟩ : ByteArray) (⟨#[120]⟩ : ByteArray) 3).bind fun t199 => (if t199 = true then ((event_Right.f 0 0 (⟨#[]⟩ : ByteArray) (⟨#[]⟩ : ByteArray) 0).bind fun t200 => (if t200 = true then (some false) else ((event_Age.f 1 2 (⟨#[97]⟩ : ByteArray) (⟨#[120]⟩ : ByteArray) 3 2).bind fun bt201 => (if bt201.2.2.2.2 = 1 then ((event_Age.f 1 2 (⟨#[97]⟩ : ByteArray) (⟨#[120]⟩ : ByteArray) 3 9).bind fun bt206 => (if bt206.2.2.2.2 = 0 then ((event_Age.f 1 2 (⟨#[97]⟩ : ByteArray) (⟨#[120]⟩ : ByteArray) 3 (-1)).bind fun bt211 => (if (bt211.1 == 1 && (bt211.2.1 == 2 && (bt211.2.2.1.toList == ([97] : List UInt8) && (bt211.2.2.2.1.toList == ([120] : List UInt8) && (bt211.2.2.2.2 == 3))))) = true then ((event_Age.f 1 2 (⟨#[97]⟩ : ByteArray) (⟨#[120]⟩ : ByteArray) 3 1).bind fun bt216 => ((event_Same.f 1 2 (⟨#[97]⟩ : ByteArray) (⟨#[120]⟩ : ByteArray) 3 bt216.1 bt216.2.1 bt216.2.2.1 bt216.2.2.2.1 bt216.2.2.2.2).bind fun t221 => (if t221 = true then ((event_Show.f 1 2 (⟨#[97]⟩ : ByteArray) (⟨#[120]⟩ : ByteArray) 3).bind fun t222 => (if t222.toList = ([49, 58, 50, 32, 97, 32, 49, 32, 51] : List UInt8) then ((event_Marks.f t180).bind fun t223 => (if t223.toList = ([2, 0, 5, 3, 1] : List UInt8) then ((event_Sorted.f (([(⟨0, 0⟩ : S55)] : List (S55)))).bind fun t227 => (some (!t227))) else (some false))) else (some false))) else (some false)))) else (some false))) else (some false))) else (some false))))) else (some false))) else (some false)) else (some false)) else (some false)) else (some false)) else (some false))) else (some false)) else (some false)) else (some false)) else (some false)) else (some false)) else (some false)) = some r := H
    have A8 := Aside0.mk A80
    clear A80
    by_cases c9 : t155.toList = ([1, 2, 3, 1, 97, 1, 120] : List UInt8)
    · rw [if_pos c9] at H
      have c9b0 : (t155.toList == ([1, 2, 3, 1, 97, 1, 120] : List UInt8)) = true := beq_iff_eq.mpr c9
      have c9b1 : (t155.toList != ([1, 2, 3, 1, 97, 1, 120] : List UInt8)) = false := bne_eq_false_iff_eq.mpr c9
      clear c9
      by_cases c10 : (t156 == 1 && (t157 == 2 && (t158.toList == ([97] : List UInt8) && (t159.toList == ([120] : List UInt8) && (t160 == 3))))) = true
      · rw [if_pos c10] at H
        have c10b0 : (t156 == 1 && (t157 == 2 && (t158.toList == ([97] : List UInt8) && (t159.toList == ([120] : List UInt8) && (t160 == 3))))) = true := c10
        (try (have c10b1 : decide (t156 = 1 && (t157 == 2 && (t158.toList == ([97] : List UInt8) && (t159.toList == ([120] : List UInt8) && (t160 == 3))))) = true := by simpa using c10))
        (try (have c10b2 : (t156 == 1 && (t157 == 2 && (t158.toList == ([97] : List UInt8) && (t159.toList == ([120] : List UInt8) && (t160 == 3))))) = true := by simpa using c10))
        clear c10
        by_cases c11 : t161 = 8
        · rw [if_pos c11] at H
          have c11b0 : (t161 == 8) = true := beq_iff_eq.mpr c11
          have c11b1 : (t161 != 8) = false := bne_eq_false_iff_eq.mpr c11
          clear c11
          by_cases c12 : t162 = 0
          · rw [if_pos c12] at H
            have c12b0 : (t162 == 0) = true := beq_iff_eq.mpr c12
            have c12b1 : (t162 != 0) = false := bne_eq_false_iff_eq.mpr c12
            clear c12
            by_cases c13 : t170 = 4
            · rw [if_pos c13] at H
              have c13b0 : (t170 == 4) = true := beq_iff_eq.mpr c13
              have c13b1 : (t170 != 4) = false := bne_eq_false_iff_eq.mpr c13
              clear c13
              by_cases c14 : t178 = 3
              · rw [if_pos c14] at H
                have c14b0 : (t178 == 3) = true := beq_iff_eq.mpr c14
                have c14b1 : (t178 != 3) = false := bne_eq_false_iff_eq.mpr c14
                clear c14
                obtain ⟨y195, hy195⟩ : ∃ y_ : List (S55), y_ = (([(⟨0, 5⟩ : S55), (⟨3, 1⟩ : S55)] : List (S55))) := ⟨_, rfl⟩
                replace H : ((rivuletref06_Equal.f k t180 y195).bind fun t198 => (if t198 = true then (if t181 = 5 then (if t182 = 0 then (if t187 = 4 then (if t192 = 2 then ((event_Right.f 1 2 (⟨#[97]⟩ : ByteArray) (⟨#[120]⟩ : ByteArray) 3).bind fun t199 => (if t199 = true then ((event_Right.f 0 0 (⟨#[]⟩ : ByteArray) (⟨#[]⟩ : ByteArray) 0).bind fun t200 => (if t200 = true then (some false) else ((event_Age.f 1 2 (⟨#[97]⟩ : ByteArray) (⟨#[120]⟩ : ByteArray) 3 2).bind fun bt201 => (if bt201.2.2.2.2 = 1 then ((event_Age.f 1 2 (⟨#[97]⟩ : ByteArray) (⟨#[120]⟩ : ByteArray) 3 9).bind fun bt206 => (if bt206.2.2.2.2 = 0 then ((event_Age.f 1 2 (⟨#[97]⟩ : ByteArray) (⟨#[120]⟩ : ByteArray) 3 (-1)).bind fun bt211 => (if (bt211.1 == 1 && (bt211.2.1 == 2 && (bt211.2.2.1.toList == ([97] : List UInt8) && (bt211.2.2.2.1.toList == ([120] : List UInt8) && (bt211.2.2.2.2 == 3))))) = true then ((event_Age.f 1 2 (⟨#[97]⟩ : ByteArray) (⟨#[120]⟩ : ByteArray) 3 1).bind fun bt216 => ((event_Same.f 1 2 (⟨#[97]⟩ : ByteArray) (⟨#[120]⟩ : ByteArray) 3 bt216.1 bt216.2.1 bt216.2.2.1 bt216.2.2.2.1 bt216.2.2.2.2).bind fun t221 => (if t221 = true then ((event_Show.f 1 2 (⟨#[97]⟩ : ByteArray) (⟨#[120]⟩ : ByteArray) 3).bind fun t222 => (if t222.toList = ([49, 58, 50, 32, 97, 32, 49, 32, 51] : List UInt8) then ((event_Marks.f t180).bind fun t223 => (if t223.toList = ([2, 0, 5, 3, 1] : List UInt8) then ((event_Sorted.f (([(⟨0, 0⟩ : S55)] : List (S55)))).bind fun t227 => (some (!t227))) else (some false))) else (some false))) else (some false)))) else (some false))) else (some false))) else (some false))))) else (some false))) else (some false)) else (some false)) else (some false)) else (some false)) else (some false))) = some r := by first | (rw [hy195]; with_reducible exact H) | (have H2_ := (Option.bind_some _ _).symm.trans H; rw [hy195]; with_reducible exact H2_) | (have H2_ := (Option.bind_some _ _).symm.trans H; with_reducible exact H2_) | with_reducible exact H | (rw [hy195]; exact H) | exact H
                have Ny195 := Aside0.mk hy195
                clear hy195
                replace H := Option.bind_eq_some_iff.mp H
                obtain ⟨t198, A150, H⟩ := H
                replace H : (if t198 = true then (if t181 = 5 then (if t182 = 0 then (if t187 = 4 then (if t192 = 2 then ((event_Right.f 1 2 (⟨#[97]⟩ : ByteArray) (⟨#[120]⟩ : ByteArray) 3).bind fun t199 => (if t199 = true then ((event_Right.f 0 0 (⟨#[]⟩ : ByteArray) (⟨#[]⟩ : ByteArray) 0).bind fun t200 => (if t200 = true then (some false) else ((event_Age.f 1 2 (⟨#[97]⟩ : ByteArray) (⟨#[120]⟩ : ByteArray) 3 2).bind fun bt201 => (if bt201.2.2.2.2 = 1 then ((event_Age.f 1 2 (⟨#[97]⟩ : ByteArray) (⟨#[120]⟩ : ByteArray) 3 9).bind fun bt206 => (if bt206.2.2.2.2 = 0 then ((event_Age.f 1 2 (⟨#[97]⟩ : ByteArray) (⟨#[120]⟩ : ByteArray) 3 (-1)).bind fun bt211 => (if (bt211.1 == 1 && (bt211.2.1 == 2 && (bt211.2.2.1.toList == ([97] : List UInt8) && (bt211.2.2.2.1.toList == ([120] : List UInt8) && (bt211.2.2.2.2 == 3))))) = true then ((event_Age.f 1 2 (⟨#[97]⟩ : ByteArray) (⟨#[120]⟩ : ByteArray) 3 1).bind fun bt216 => ((event_Same.f 1 2 (⟨#[97]⟩ : ByteArray) (⟨#[120]⟩ : ByteArray) 3 bt216.1 bt216.2.1 bt216.2.2.1 bt216.2.2.2.1 bt216.2.2.2.2).bind fun t221 => (if t221 = true then ((event_Show.f 1 2 (⟨#[97]⟩ : ByteArray) (⟨#[120]⟩ : ByteArray) 3).bind fun t222 => (if t222.toList = ([49, 58, 50, 32, 97, 32, 49, 32, 51] : List UInt8) then ((event_Marks.f t180).bind fun t223 => (if t223.toList = ([2, 0, 5, 3, 1] : List UInt8) then ((event_Sorted.f (([(⟨0, 0⟩ : S55)] : List (S55)))).bind fun t227 => (some (!t227))) else (some false))) else (some false))) else (some false)))) else (some false))) else (some false))) else (some false))))) else (some false))) else (some false)) else (some false)) else (some false)) else (some false)) else (some false)) = some r := H
                have A15 := Aside0.mk A150
                clear A150
                by_cases c16 : t198 = true
                · subst c16
                  have H1 : (if t181 = 5 then (if t182 = 0 then (if t187 = 4 then (if t192 = 2 then ((event_Right.f 1 2 (⟨#[97]⟩ : ByteArray) (⟨#[120]⟩ : ByteArray) 3).bind fun t199 => (if t199 = true then ((event_Right.f 0 0 (⟨#[]⟩ : ByteArray) (⟨#[]⟩ : ByteArray) 0).bind fun t200 => (if t200 = true then (some false) else ((event_Age.f 1 2 (⟨#[97]⟩ : ByteArray) (⟨#[120]⟩ : ByteArray) 3 2).bind fun bt201 => (if bt201.2.2.2.2 = 1 then ((event_Age.f 1 2 (⟨#[97]⟩ : ByteArray) (⟨#[120]⟩ : ByteArray) 3 9).bind fun bt206 => (if bt206.2.2.2.2 = 0 then ((event_Age.f 1 2 (⟨#[97]⟩ : ByteArray) (⟨#[120]⟩ : ByteArray) 3 (-1)).bind fun bt211 => (if (bt211.1 == 1 && (bt211.2.1 == 2 && (bt211.2.2.1.toList == ([97] : List UInt8) && (bt211.2.2.2.1.toList == ([120] : List UInt8) && (bt211.2.2.2.2 == 3))))) = true then ((event_Age.f 1 2 (⟨#[97]⟩ : ByteArray) (⟨#[120]⟩ : ByteArray) 3 1).bind fun bt216 => ((event_Same.f 1 2 (⟨#[97]⟩ : ByteArray) (⟨#[120]⟩ : ByteArray) 3 bt216.1 bt216.2.1 bt216.2.2.1 bt216.2.2.2.1 bt216.2.2.2.2).bind fun t221 => (if t221 = true then ((event_Show.f 1 2 (⟨#[97]⟩ : ByteArray) (⟨#[120]⟩ : ByteArray) 3).bind fun t222 => (if t222.toList = ([49, 58, 50, 32, 97, 32, 49, 32, 51] : List UInt8) then ((event_Marks.f t180).bind fun t223 => (if t223.toList = ([2, 0, 5, 3, 1] : List UInt8) then ((event_Sorted.f (([(⟨0, 0⟩ : S55)] : List (S55)))).bind fun t227 => (some (!t227))) else (some false))) else (some false))) else (some false)))) else (some false))) else (some false))) else (some false))))) else (some false))) else (some false)) else (some false)) else (some false)) else (some false)) = some r := by rw [if_pos rfl] at H; exact H
                  clear H
                  have H := H1
                  clear H1
                  by_cases c17 : t181 = 5
                  · rw [if_pos c17] at H
                    have c17b0 : (t181 == 5) = true := beq_iff_eq.mpr c17
                    have c17b1 : (t181 != 5) = false := bne_eq_false_iff_eq.mpr c17
                    clear c17
                    by_cases c18 : t182 = 0
                    · rw [if_pos c18] at H
                      have c18b0 : (t182 == 0) = true := beq_iff_eq.mpr c18
                      have c18b1 : (t182 != 0) = false := bne_eq_false_iff_eq.mpr c18
                      clear c18
                      by_cases c19 : t187 = 4
                      · rw [if_pos c19] at H
                        have c19b0 : (t187 == 4) = true := beq_iff_eq.mpr c19
                        have c19b1 : (t187 != 4) = false := bne_eq_false_iff_eq.mpr c19
                        clear c19
                        by_cases c20 : t192 = 2
                        · rw [if_pos c20] at H
                          have c20b0 : (t192 == 2) = true := beq_iff_eq.mpr c20
                          have c20b1 : (t192 != 2) = false := bne_eq_false_iff_eq.mpr c20
                          clear c20
                          replace H := Option.bind_eq_some_iff.mp H
                          obtain ⟨t199, A210, H⟩ := H
                          replace H : (if t199 = true then ((event_Right.f 0 0 (⟨#[]⟩ : ByteArray) (⟨#[]⟩ : ByteArray) 0).bind fun t200 => (if t200 = true then (some false) else ((event_Age.f 1 2 (⟨#[97]⟩ : ByteArray) (⟨#[120]⟩ : ByteArray) 3 2).bind fun bt201 => (if bt201.2.2.2.2 = 1 then ((event_Age.f 1 2 (⟨#[97]⟩ : ByteArray) (⟨#[120]⟩ : ByteArray) 3 9).bind fun bt206 => (if bt206.2.2.2.2 = 0 then ((event_Age.f 1 2 (⟨#[97]⟩ : ByteArray) (⟨#[120]⟩ : ByteArray) 3 (-1)).bind fun bt211 => (if (bt211.1 == 1 && (bt211.2.1 == 2 && (bt211.2.2.1.toList == ([97] : List UInt8) && (bt211.2.2.2.1.toList == ([120] : List UInt8) && (bt211.2.2.2.2 == 3))))) = true then ((event_Age.f 1 2 (⟨#[97]⟩ : ByteArray) (⟨#[120]⟩ : ByteArray) 3 1).bind fun bt216 => ((event_Same.f 1 2 (⟨#[97]⟩ : ByteArray) (⟨#[120]⟩ : ByteArray) 3 bt216.1 bt216.2.1 bt216.2.2.1 bt216.2.2.2.1 bt216.2.2.2.2).bind fun t221 => (if t221 = true then ((event_Show.f 1 2 (⟨#[97]⟩ : ByteArray) (⟨#[120]⟩ : ByteArray) 3).bind fun t222 => (if t222.toList = ([49, 58, 50, 32, 97, 32, 49, 32, 51] : List UInt8) then ((event_Marks.f t180).bind fun t223 => (if t223.toList = ([2, 0, 5, 3, 1] : List UInt8) then ((event_Sorted.f (([(⟨0, 0⟩ : S55)] : List (S55)))).bind fun t227 => (some (!t227))) else (some false))) else (some false))) else (some false)))) else (some false))) else (some false))) else (some false))))) else (some false)) = some r := H
                          have A21 := Aside0.mk A210
                          clear A210
                          by_cases c22 : t199 = true
                          · subst c22
                            have H1 : ((event_Right.f 0 0 (⟨#[]⟩ : ByteArray) (⟨#[]⟩ : ByteArray) 0).bind fun t200 => (if t200 = true then (some false) else ((event_Age.f 1 2 (⟨#[97]⟩ : ByteArray) (⟨#[120]⟩ : ByteArray) 3 2).bind fun bt201 => (if bt201.2.2.2.2 = 1 then ((event_Age.f 1 2 (⟨#[97]⟩ : ByteArray) (⟨#[120]⟩ : ByteArray) 3 9).bind fun bt206 => (if bt206.2.2.2.2 = 0 then ((event_Age.f 1 2 (⟨#[97]⟩ : ByteArray) (⟨#[120]⟩ : ByteArray) 3 (-1)).bind fun bt211 => (if (bt211.1 == 1 && (bt211.2.1 == 2 && (bt211.2.2.1.toList == ([97] : List UInt8) && (bt211.2.2.2.1.toList == ([120] : List UInt8) && (bt211.2.2.2.2 == 3))))) = true then ((event_Age.f 1 2 (⟨#[97]⟩ : ByteArray) (⟨#[120]⟩ : ByteArray) 3 1).bind fun bt216 => ((event_Same.f 1 2 (⟨#[97]⟩ : ByteArray) (⟨#[120]⟩ : ByteArray) 3 bt216.1 bt216.2.1 bt216.2.2.1 bt216.2.2.2.1 bt216.2.2.2.2).bind fun t221 => (if t221 = true then ((event_Show.f 1 2 (⟨#[97]⟩ : ByteArray) (⟨#[120]⟩ : ByteArray) 3).bind fun t222 => (if t222.toList = ([49, 58, 50, 32, 97, 32, 49, 32, 51] : List UInt8) then ((event_Marks.f t180).bind fun t223 => (if t223.toList = ([2, 0, 5, 3, 1] : List UInt8) then ((event_Sorted.f (([(⟨0, 0⟩ : S55)] : List (S55)))).bind fun t227 => (some (!t227))) else (some false))) else (some false))) else (some false)))) else (some false))) else (some false))) else (some false))))) = some r := by rw [if_pos rfl] at H; exact H
                            clear H
                            have H := H1
                            clear H1
                            replace H := Option.bind_eq_some_iff.mp H
                            obtain ⟨t200, A230, H⟩ := H
                            replace H : (if t200 = true then (some false) else ((event_Age.f 1 2 (⟨#[97]⟩ : ByteArray) (⟨#[120]⟩ : ByteArray) 3 2).bind fun bt201 => (if bt201.2.2.2.2 = 1 then ((event_Age.f 1 2 (⟨#[97]⟩ : ByteArray) (⟨#[120]⟩ : ByteArray) 3 9).bind fun bt206 => (if bt206.2.2.2.2 = 0 then ((event_Age.f 1 2 (⟨#[97]⟩ : ByteArray) (⟨#[120]⟩ : ByteArray) 3 (-1)).bind fun bt211 => (if (bt211.1 == 1 && (bt211.2.1 == 2 && (bt211.2.2.1.toList == ([97] : List UInt8) && (bt211.2.2.2.1.toList == ([120] : List UInt8) && (bt211.2.2.2.2 == 3))))) = true then ((event_Age.f 1 2 (⟨#[97]⟩ : ByteArray) (⟨#[120]⟩ : ByteArray) 3 1).bind fun bt216 => ((event_Same.f 1 2 (⟨#[97]⟩ : ByteArray) (⟨#[120]⟩ : ByteArray) 3 bt216.1 bt216.2.1 bt216.2.2.1 bt216.2.2.2.1 bt216.2.2.2.2).bind fun t221 => (if t221 = true then ((event_Show.f 1 2 (⟨#[97]⟩ : ByteArray) (⟨#[120]⟩ : ByteArray) 3).bind fun t222 => (if t222.toList = ([49, 58, 50, 32, 97, 32, 49, 32, 51] : List UInt8) then ((event_Marks.f t180).bind fun t223 => (if t223.toList = ([2, 0, 5, 3, 1] : List UInt8) then ((event_Sorted.f (([(⟨0, 0⟩ : S55)] : List (S55)))).bind fun t227 => (some (!t227))) else (some false))) else (some false))) else (some false)))) else (some false))) else (some false))) else (some false)))) = some r := H
                            have A23 := Aside0.mk A230
                            clear A230
                            by_cases c24 : t200 = true
                            · subst c24
                              have H1 : (some false) = some r := by rw [if_pos rfl] at H; exact H
                              clear H
                              have H := H1
                              clear H1
                              exact absurd (Option.some.inj H) (by rw [hr_.out]; decide)
                            · replace c24 := Bool.eq_false_iff.mpr c24
                              subst c24
                              have H1 : ((event_Age.f 1 2 (⟨#[97]⟩ : ByteArray) (⟨#[120]⟩ : ByteArray) 3 2).bind fun bt201 => (if bt201.2.2.2.2 = 1 then ((event_Age.f 1 2 (⟨#[97]⟩ : ByteArray) (⟨#[120]⟩ : ByteArray) 3 9).bind fun bt206 => (if bt206.2.2.2.2 = 0 then ((event_Age.f 1 2 (⟨#[97]⟩ : ByteArray) (⟨#[120]⟩ : ByteArray) 3 (-1)).bind fun bt211 => (if (bt211.1 == 1 && (bt211.2.1 == 2 && (bt211.2.2.1.toList == ([97] : List UInt8) && (bt211.2.2.2.1.toList == ([120] : List UInt8) && (bt211.2.2.2.2 == 3))))) = true then ((event_Age.f 1 2 (⟨#[97]⟩ : ByteArray) (⟨#[120]⟩ : ByteArray) 3 1).bind fun bt216 => ((event_Same.f 1 2 (⟨#[97]⟩ : ByteArray) (⟨#[120]⟩ : ByteArray) 3 bt216.1 bt216.2.1 bt216.2.2.1 bt216.2.2.2.1 bt216.2.2.2.2).bind fun t221 => (if t221 = true then ((event_Show.f 1 2 (⟨#[97]⟩ : ByteArray) (⟨#[120]⟩ : ByteArray) 3).bind fun t222 => (if t222.toList = ([49, 58, 50, 32, 97, 32, 49, 32, 51] : List UInt8) then ((event_Marks.f t180).bind fun t223 => (if t223.toList = ([2, 0, 5, 3, 1] : List UInt8) then ((event_Sorted.f (([(⟨0, 0⟩ : S55)] : List (S55)))).bind fun t227 => (some (!t227))) else (some false))) else (some false))) else (some false)))) else (some false))) else (some false))) else (some false))) = some r := by rw [if_neg (show ¬ (false = true) by decide)] at H; exact H
                              clear H
                              have H := H1
                              clear H1
                              replace H := Option.bind_eq_some_iff.mp H
                              obtain ⟨⟨t201, t202, t203, t204, t205⟩, A250, H⟩ := H
                              replace H : (if t205 = 1 then ((event_Age.f 1 2 (⟨#[97]⟩ : ByteArray) (⟨#[120]⟩ : ByteArray) 3 9).bind fun bt206 => (if bt206.2.2.2.2 = 0 then ((event_Age.f 1 2 (⟨#[97]⟩ : ByteArray) (⟨#[120]⟩ : ByteArray) 3 (-1)).bind fun bt211 => (if (bt211.1 == 1 && (bt211.2.1 == 2 && (bt211.2.2.1.toList == ([97] : List UInt8) && (bt211.2.2.2.1.toList == ([120] : List UInt8) && (bt211.2.2.2.2 == 3))))) = true then ((event_Age.f 1 2 (⟨#[97]⟩ : ByteArray) (⟨#[120]⟩ : ByteArray) 3 1).bind fun bt216 => ((event_Same.f 1 2 (⟨#[97]⟩ : ByteArray) (⟨#[120]⟩ : ByteArray) 3 bt216.1 bt216.2.1 bt216.2.2.1 bt216.2.2.2.1 bt216.2.2.2.2).bind fun t221 => (if t221 = true then ((event_Show.f 1 2 (⟨#[97]⟩ : ByteArray) (⟨#[120]⟩ : ByteArray) 3).bind fun t222 => (if t222.toList = ([49, 58, 50, 32, 97, 32, 49, 32, 51] : List UInt8) then ((event_Marks.f t180).bind fun t223 => (if t223.toList = ([2, 0, 5, 3, 1] : List UInt8) then ((event_Sorted.f (([(⟨0, 0⟩ : S55)] : List (S55)))).bind fun t227 => (some (!t227))) else (some false))) else (some false))) else (some false)))) else (some false))) else (some false))) else (some false)) = some r := H
                              have A25 := Aside0.mk A250
                              clear A250
                              by_cases c26 : t205 = 1
                              · rw [if_pos c26] at H
                                have c26b0 : (t205 == 1) = true := beq_iff_eq.mpr c26
                                have c26b1 : (t205 != 1) = false := bne_eq_false_iff_eq.mpr c26
                                clear c26
                                replace H := Option.bind_eq_some_iff.mp H
                                obtain ⟨⟨t206, t207, t208, t209, t210⟩, A270, H⟩ := H
                                replace H : (if t210 = 0 then ((event_Age.f 1 2 (⟨#[97]⟩ : ByteArray) (⟨#[120]⟩ : ByteArray) 3 (-1)).bind fun bt211 => (if (bt211.1 == 1 && (bt211.2.1 == 2 && (bt211.2.2.1.toList == ([97] : List UInt8) && (bt211.2.2.2.1.toList == ([120] : List UInt8) && (bt211.2.2.2.2 == 3))))) = true then ((event_Age.f 1 2 (⟨#[97]⟩ : ByteArray) (⟨#[120]⟩ : ByteArray) 3 1).bind fun bt216 => ((event_Same.f 1 2 (⟨#[97]⟩ : ByteArray) (⟨#[120]⟩ : ByteArray) 3 bt216.1 bt216.2.1 bt216.2.2.1 bt216.2.2.2.1 bt216.2.2.2.2).bind fun t221 => (if t221 = true then ((event_Show.f 1 2 (⟨#[97]⟩ : ByteArray) (⟨#[120]⟩ : ByteArray) 3).bind fun t222 => (if t222.toList = ([49, 58, 50, 32, 97, 32, 49, 32, 51] : List UInt8) then ((event_Marks.f t180).bind fun t223 => (if t223.toList = ([2, 0, 5, 3, 1] : List UInt8) then ((event_Sorted.f (([(⟨0, 0⟩ : S55)] : List (S55)))).bind fun t227 => (some (!t227))) else (some false))) else (some false))) else (some false)))) else (some false))) else (some false)) = some r := H
                                have A27 := Aside0.mk A270
                                clear A270
                                by_cases c28 : t210 = 0
                                · rw [if_pos c28] at H
                                  have c28b0 : (t210 == 0) = true := beq_iff_eq.mpr c28
                                  have c28b1 : (t210 != 0) = false := bne_eq_false_iff_eq.mpr c28
                                  clear c28
                                  replace H := Option.bind_eq_some_iff.mp H
                                  obtain ⟨⟨t211, t212, t213, t214, t215⟩, A290, H⟩ := H
                                  replace H : (if (t211 == 1 && (t212 == 2 && (t213.toList == ([97] : List UInt8) && (t214.toList == ([120] : List UInt8) && (t215 == 3))))) = true then ((event_Age.f 1 2 (⟨#[97]⟩ : ByteArray) (⟨#[120]⟩ : ByteArray) 3 1).bind fun bt216 => ((event_Same.f 1 2 (⟨#[97]⟩ : ByteArray) (⟨#[120]⟩ : ByteArray) 3 bt216.1 bt216.2.1 bt216.2.2.1 bt216.2.2.2.1 bt216.2.2.2.2).bind fun t221 => (if t221 = true then ((event_Show.f 1 2 (⟨#[97]⟩ : ByteArray) (⟨#[120]⟩ : ByteArray) 3).bind fun t222 => (if t222.toList = ([49, 58, 50, 32, 97, 32, 49, 32, 51] : List UInt8) then ((event_Marks.f t180).bind fun t223 => (if t223.toList = ([2, 0, 5, 3, 1] : List UInt8) then ((event_Sorted.f (([(⟨0, 0⟩ : S55)] : List (S55)))).bind fun t227 => (some (!t227))) else (some false))) else (some false))) else (some false)))) else (some false)) = some r := H
                                  have A29 := Aside0.mk A290
                                  clear A290
                                  by_cases c30 : (t211 == 1 && (t212 == 2 && (t213.toList == ([97] : List UInt8) && (t214.toList == ([120] : List UInt8) && (t215 == 3))))) = true
                                  · rw [if_pos c30] at H
                                    have c30b0 : (t211 == 1 && (t212 == 2 && (t213.toList == ([97] : List UInt8) && (t214.toList == ([120] : List UInt8) && (t215 == 3))))) = true := c30
                                    (try (have c30b1 : decide (t211 = 1 && (t212 == 2 && (t213.toList == ([97] : List UInt8) && (t214.toList == ([120] : List UInt8) && (t215 == 3))))) = true := by simpa using c30))
                                    (try (have c30b2 : (t211 == 1 && (t212 == 2 && (t213.toList == ([97] : List UInt8) && (t214.toList == ([120] : List UInt8) && (t215 == 3))))) = true := by simpa using c30))
                                    clear c30
                                    replace H := Option.bind_eq_some_iff.mp H
                                    obtain ⟨⟨t216, t217, t218, t219, t220⟩, A310, H⟩ := H
                                    replace H : ((event_Same.f 1 2 (⟨#[97]⟩ : ByteArray) (⟨#[120]⟩ : ByteArray) 3 t216 t217 t218 t219 t220).bind fun t221 => (if t221 = true then ((event_Show.f 1 2 (⟨#[97]⟩ : ByteArray) (⟨#[120]⟩ : ByteArray) 3).bind fun t222 => (if t222.toList = ([49, 58, 50, 32, 97, 32, 49, 32, 51] : List UInt8) then ((event_Marks.f t180).bind fun t223 => (if t223.toList = ([2, 0, 5, 3, 1] : List UInt8) then ((event_Sorted.f (([(⟨0, 0⟩ : S55)] : List (S55)))).bind fun t227 => (some (!t227))) else (some false))) else (some false))) else (some false))) = some r := H
                                    have A31 := Aside0.mk A310
                                    clear A310
                                    replace H := Option.bind_eq_some_iff.mp H
                                    obtain ⟨t221, A320, H⟩ := H
                                    replace H : (if t221 = true then ((event_Show.f 1 2 (⟨#[97]⟩ : ByteArray) (⟨#[120]⟩ : ByteArray) 3).bind fun t222 => (if t222.toList = ([49, 58, 50, 32, 97, 32, 49, 32, 51] : List UInt8) then ((event_Marks.f t180).bind fun t223 => (if t223.toList = ([2, 0, 5, 3, 1] : List UInt8) then ((event_Sorted.f (([(⟨0, 0⟩ : S55)] : List (S55)))).bind fun t227 => (some (!t227))) else (some false))) else (some false))) else (some false)) = some r := H
                                    have A32 := Aside0.mk A320
                                    clear A320
                                    by_cases c33 : t221 = true
                                    · subst c33
                                      have H1 : ((event_Show.f 1 2 (⟨#[97]⟩ : ByteArray) (⟨#[120]⟩ : ByteArray) 3).bind fun t222 => (if t222.toList = ([49, 58, 50, 32, 97, 32, 49, 32, 51] : List UInt8) then ((event_Marks.f t180).bind fun t223 => (if t223.toList = ([2, 0, 5, 3, 1] : List UInt8) then ((event_Sorted.f (([(⟨0, 0⟩ : S55)] : List (S55)))).bind fun t227 => (some (!t227))) else (some false))) else (some false))) = some r := by rw [if_pos rfl] at H; exact H
                                      clear H
                                      have H := H1
                                      clear H1
                                      replace H := Option.bind_eq_some_iff.mp H
                                      obtain ⟨t222, A340, H⟩ := H
                                      replace H : (if t222.toList = ([49, 58, 50, 32, 97, 32, 49, 32, 51] : List UInt8) then ((event_Marks.f t180).bind fun t223 => (if t223.toList = ([2, 0, 5, 3, 1] : List UInt8) then ((event_Sorted.f (([(⟨0, 0⟩ : S55)] : List (S55)))).bind fun t227 => (some (!t227))) else (some false))) else (some false)) = some r := H
                                      have A34 := Aside0.mk A340
                                      clear A340
                                      by_cases c35 : t222.toList = ([49, 58, 50, 32, 97, 32, 49, 32, 51] : List UInt8)
                                      · rw [if_pos c35] at H
                                        have c35b0 : (t222.toList == ([49, 58, 50, 32, 97, 32, 49, 32, 51] : List UInt8)) = true := beq_iff_eq.mpr c35
                                        have c35b1 : (t222.toList != ([49, 58, 50, 32, 97, 32, 49, 32, 51] : List UInt8)) = false := bne_eq_false_iff_eq.mpr c35
                                        clear c35
                                        replace H := Option.bind_eq_some_iff.mp H
                                        obtain ⟨t223, A360, H⟩ := H
                                        replace H : (if t223.toList = ([2, 0, 5, 3, 1] : List UInt8) then ((event_Sorted.f (([(⟨0, 0⟩ : S55)] : List (S55)))).bind fun t227 => (some (!t227))) else (some false)) = some r := H
                                        have A36 := Aside0.mk A360
                                        clear A360
                                        by_cases c37 : t223.toList = ([2, 0, 5, 3, 1] : List UInt8)
                                        · rw [if_pos c37] at H
                                          have c37b0 : (t223.toList == ([2, 0, 5, 3, 1] : List UInt8)) = true := beq_iff_eq.mpr c37
                                          have c37b1 : (t223.toList != ([2, 0, 5, 3, 1] : List UInt8)) = false := bne_eq_false_iff_eq.mpr c37
                                          clear c37
                                          obtain ⟨y224, hy224⟩ : ∃ y_ : List (S55), y_ = (([(⟨0, 0⟩ : S55)] : List (S55))) := ⟨_, rfl⟩
                                          replace H : ((event_Sorted.f y224).bind fun t227 => (some (!t227))) = some r := by first | (rw [hy224]; with_reducible exact H) | (have H2_ := (Option.bind_some _ _).symm.trans H; rw [hy224]; with_reducible exact H2_) | (have H2_ := (Option.bind_some _ _).symm.trans H; with_reducible exact H2_) | with_reducible exact H | (rw [hy224]; exact H) | exact H
                                          have Ny224 := Aside0.mk hy224
                                          clear hy224
                                          replace H := Option.bind_eq_some_iff.mp H
                                          obtain ⟨t227, A380, H⟩ := H
                                          replace H : (some (!t227)) = some r := H
                                          have A38 := Aside0.mk A380
                                          clear A380
                                          obtain rfl := Option.some.inj H
                                          go_enter Tryd.func21, Tryd.ntmps21
                                          try go_wp2_with (first | ((with_reducible refine gate_dst (N := 1) rfl ?_); (try (refine gate_guard (by rfl) ?_; dsimp only)); refine box_event ?hg (N := 1) ?hd (cs := #[.int .i64 0, .int .i64 0, .string (⟨#[]⟩ : ByteArray), .string (⟨#[]⟩ : ByteArray), .int .i64 0]) (t := 23) ?hr ?_; (case hd => rfl); (case hg => rfl); (case hr => first | (go_simp; done) | (go_simp; rfl)); intro gb154 hg w39 hbox hb; have n0_ := Aside0.mk (below_step (by repeat (first | (with_reducible first | exact HB.out | apply below_alloc | apply pw_below_drewN | apply below_drew1) | exact HB.out)) hb); have n1_ := Aside0.mk (hbox); have n2_ := Aside0.mk ((by rw [hg]; exact (below_size (by repeat (first | (with_reducible first | exact HB.out | apply below_alloc | apply pw_below_drewN | apply below_drew1) | exact HB.out))) : w.heap.size ≤ gb154)); have n3_ := Aside0.mk ((by rw [hg]; exact (below_size (by repeat (first | (with_reducible first | exact HB.out | apply below_alloc | apply pw_below_drewN | apply below_drew1) | exact HB.out))) : w.heap.size ≤ gb154)); clear HB; have HB := n0_; have BK154 := n1_; have GW154 := n2_; have GE154 := n3_; clear n0_ n1_ n2_ n3_; clear hb hbox hg; have hcz40_0 : w39.cell? ⟨gb154, 0, none⟩ = some (.int .i64 0) := (blk_cell BK154.out 0).trans rfl; have hcz40_1 : w39.cell? ⟨gb154, 1, none⟩ = some (.int .i64 0) := (blk_cell BK154.out 1).trans rfl; have hcz40_2 : w39.cell? ⟨gb154, 2, none⟩ = some (.string (⟨#[]⟩ : ByteArray)) := (blk_cell BK154.out 2).trans rfl; have hcz40_3 : w39.cell? ⟨gb154, 3, none⟩ = some (.string (⟨#[]⟩ : ByteArray)) := (blk_cell BK154.out 3).trans rfl; have hcz40_4 : w39.cell? ⟨gb154, 4, none⟩ = some (.int .i64 0) := (blk_cell BK154.out 4).trans rfl; have hfz40_0 := blk_frozen BK154.out 0; have hfz40_1 := blk_frozen BK154.out 1; have hfz40_2 := blk_frozen BK154.out 2; have hfz40_3 := blk_frozen BK154.out 3; have hfz40_4 := blk_frozen BK154.out 4) | ((with_reducible refine gate_callee (f := 13) rfl ?_); refine goesL_ (some 23) rfl rfl Tryd.func13 (by kernel_rfl) rfl #[.agg #[.int .i64 1, .int .i64 2, .string (⟨#[97]⟩ : ByteArray), .string (⟨#[120]⟩ : ByteArray), .int .i64 3]] rfl (by (try simp only [List.map_toArray, List.map_cons, List.map_nil]); first | done | rfl | (simp only [List.length_drop, List.length_take]; rfl)) ?_; (with_reducible refine (event_Put.calls 1 2 (⟨#[97]⟩ : ByteArray) (⟨#[120]⟩ : ByteArray) 3 t155 _ A1.out).mono ?_); rintro e w41 ⟨rfl, hb⟩; refine ⟨_, rfl, ?_⟩; have n0_ := Aside0.mk (blk_below (g := gb154) (o := .cells #[.int .i64 1, .int .i64 2, .string (⟨#[97]⟩ : ByteArray), .string (⟨#[120]⟩ : ByteArray), .int .i64 3] 23 (0, 0)) (by (with_reducible repeat (first | refine blk_drewN ?_ _ | refine blk_drew ?_ | refine blk_alloc ?_ _)); refine blk_put (cs := #[.int .i64 1, .int .i64 2, .string (⟨#[97]⟩ : ByteArray), .string (⟨#[120]⟩ : ByteArray), .int .i64 0]) ?_ 4 _ rfl; (with_reducible repeat (first | refine blk_drewN ?_ _ | refine blk_drew ?_ | refine blk_alloc ?_ _)); refine blk_put (cs := #[.int .i64 1, .int .i64 2, .string (⟨#[97]⟩ : ByteArray), .string (⟨#[]⟩ : ByteArray), .int .i64 0]) ?_ 3 _ rfl; (with_reducible repeat (first | refine blk_drewN ?_ _ | refine blk_drew ?_ | refine blk_alloc ?_ _)); refine blk_put (cs := #[.int .i64 1, .int .i64 2, .string (⟨#[]⟩ : ByteArray), .string (⟨#[]⟩ : ByteArray), .int .i64 0]) ?_ 2 _ rfl; (with_reducible repeat (first | refine blk_drewN ?_ _ | refine blk_drew ?_ | refine blk_alloc ?_ _)); refine blk_put (cs := #[.int .i64 1, .int .i64 0, .string (⟨#[]⟩ : ByteArray), .string (⟨#[]⟩ : ByteArray), .int .i64 0]) ?_ 1 _ rfl; (with_reducible repeat (first | refine blk_drewN ?_ _ | refine blk_drew ?_ | refine blk_alloc ?_ _)); refine blk_put (cs := #[.int .i64 0, .int .i64 0, .string (⟨#[]⟩ : ByteArray), .string (⟨#[]⟩ : ByteArray), .int .i64 0]) ?_ 0 _ rfl; (with_reducible repeat (first | refine blk_drewN ?_ _ | refine blk_drew ?_ | refine blk_alloc ?_ _)); exact BK154.out) hb); have n1_ := Aside0.mk (below_step (by repeat (first | (with_reducible first | exact HB.out | apply below_alloc | apply pw_below_drewN | apply below_drew1 | refine below_set ?_ GE154.out) | exact HB.out)) hb); clear BK154; clear HB; have BK154 := n0_; have HB := n1_; clear n0_ n1_; (try clear hb); (try clear hb2); (try clear hk); (try clear hi)) | ((with_reducible refine gate_callee (f := 22) rfl ?_); refine goesL_ (some 27) rfl rfl Tryd.func22 (by kernel_rfl) rfl #[.string ((⟨#[122]⟩ : ByteArray) ++ t155), .int .i64 1] rfl (by (try simp only [List.map_toArray, List.map_cons, List.map_nil]); first | done | rfl | (simp only [List.length_drop, List.length_take]; rfl)) ?_; (with_reducible refine (event_Get.calls ((⟨#[122]⟩ : ByteArray) ++ t155) 1 t156 t157 t158 t159 t160 t161 t162 _ A3.out).mono ?_); rintro e w42 ⟨rfl, hb⟩; refine ⟨_, rfl, ?_⟩; have n0_ := Aside0.mk (blk_below (g := gb154) (o := .cells #[.int .i64 1, .int .i64 2, .string (⟨#[97]⟩ : ByteArray), .string (⟨#[120]⟩ : ByteArray), .int .i64 3] 23 (0, 0)) (by (with_reducible repeat (first | refine blk_drewN ?_ _ | refine blk_drew ?_ | refine blk_alloc ?_ _)); exact BK154.out) hb); have n1_ := Aside0.mk (below_step (by repeat (first | (with_reducible first | exact HB.out | apply below_alloc | apply pw_below_drewN | apply below_drew1 | refine below_set ?_ GE154.out) | exact HB.out)) hb); clear BK154; clear HB; have BK154 := n0_; have HB := n1_; clear n0_ n1_; (try clear hb); (try clear hb2); (try clear hk); (try clear hi)) | ((with_reducible refine gate_dst (N := 3) rfl ?_); (try (refine gate_guard (by rfl) ?_; dsimp only)); refine box_event ?hg (N := 3) ?hd (cs := #[.int .i64 0, .int .i64 0, .string (⟨#[]⟩ : ByteArray), .string (⟨#[]⟩ : ByteArray), .int .i64 0]) (t := 23) ?hr ?_; (case hd => rfl); (case hg => rfl); (case hr => first | (go_simp; done) | (go_simp; rfl)); intro gb163 hg w43 hbox hb; have n0_ := Aside0.mk (blk_below (g := gb154) (o := .cells #[.int .i64 1, .int .i64 2, .string (⟨#[97]⟩ : ByteArray), .string (⟨#[120]⟩ : ByteArray), .int .i64 3] 23 (0, 0)) (by (with_reducible repeat (first | refine blk_drewN ?_ _ | refine blk_drew ?_ | refine blk_alloc ?_ _)); exact BK154.out) hb); have n1_ := Aside0.mk (below_step (by repeat (first | (with_reducible first | exact HB.out | apply below_alloc | apply pw_below_drewN | apply below_drew1 | refine below_set ?_ GE154.out) | exact HB.out)) hb); have n2_ := Aside0.mk (hbox); have n3_ := Aside0.mk ((by rw [hg]; exact (below_size (by repeat (first | (with_reducible first | exact HB.out | apply below_alloc | apply pw_below_drewN | apply below_drew1 | refine below_set ?_ GE154.out) | exact HB.out))) : w.heap.size ≤ gb163)); have n4_ := Aside0.mk ((by rw [hg]; exact (below_size (by repeat (first | (with_reducible first | exact HB.out | apply below_alloc | apply pw_below_drewN | apply below_drew1 | refine below_set ?_ GE154.out) | exact HB.out))) : w.heap.size ≤ gb163)); have n5_ := Aside0.mk ((by rw [hg]; exact Nat.ne_of_lt (blk_lt (g := gb154) (o := .cells #[.int .i64 1, .int .i64 2, .string (⟨#[97]⟩ : ByteArray), .string (⟨#[120]⟩ : ByteArray), .int .i64 3] 23 (0, 0)) (by (with_reducible repeat (first | refine blk_drewN ?_ _ | refine blk_drew ?_ | refine blk_alloc ?_ _)); exact BK154.out)) : gb154 ≠ gb163)); have n6_ := Aside0.mk ((by rw [hg]; exact Nat.ne_of_gt (blk_lt (g := gb154) (o := .cells #[.int .i64 1, .int .i64 2, .string (⟨#[97]⟩ : ByteArray), .string (⟨#[120]⟩ : ByteArray), .int .i64 3] 23 (0, 0)) (by (with_reducible repeat (first | refine blk_drewN ?_ _ | refine blk_drew ?_ | refine blk_alloc ?_ _)); exact BK154.out)) : gb163 ≠ gb154)); clear BK154; clear HB; have BK154 := n0_; have HB := n1_; have BK163 := n2_; have GW163 := n3_; have GE163 := n4_; have NB154_163 := n5_; have NB163_154 := n6_; clear n0_ n1_ n2_ n3_ n4_ n5_ n6_; clear hb hbox hg; have hnb44 := NB163_154.out; have hnc44 := NB154_163.out; have hcz45_0 : w43.cell? ⟨gb163, 0, none⟩ = some (.int .i64 0) := (blk_cell BK163.out 0).trans rfl; have hcz45_1 : w43.cell? ⟨gb163, 1, none⟩ = some (.int .i64 0) := (blk_cell BK163.out 1).trans rfl; have hcz45_2 : w43.cell? ⟨gb163, 2, none⟩ = some (.string (⟨#[]⟩ : ByteArray)) := (blk_cell BK163.out 2).trans rfl; have hcz45_3 : w43.cell? ⟨gb163, 3, none⟩ = some (.string (⟨#[]⟩ : ByteArray)) := (blk_cell BK163.out 3).trans rfl; have hcz45_4 : w43.cell? ⟨gb163, 4, none⟩ = some (.int .i64 0) := (blk_cell BK163.out 4).trans rfl; have hfz45_0 := blk_frozen BK163.out 0; have hfz45_1 := blk_frozen BK163.out 1; have hfz45_2 := blk_frozen BK163.out 2; have hfz45_3 := blk_frozen BK163.out 3; have hfz45_4 := blk_frozen BK163.out 4) | ((with_reducible refine gate_callee (f := 22) rfl ?_); refine goesL_ (some 32) rfl rfl Tryd.func22 (by kernel_rfl) rfl #[.string (⟨#[1, 0, 3, 1, 97, 1, 120]⟩ : ByteArray), .int .i64 0] rfl (by (try simp only [List.map_toArray, List.map_cons, List.map_nil]); first | done | rfl | (simp only [List.length_drop, List.length_take]; rfl)) ?_; (with_reducible refine (event_Get.calls (⟨#[1, 0, 3, 1, 97, 1, 120]⟩ : ByteArray) 0 t164 t165 t166 t167 t168 t169 t170 _ A4.out).mono ?_); rintro e w46 ⟨rfl, hb⟩; refine ⟨_, rfl, ?_⟩; have n0_ := Aside0.mk (blk_below (g := gb154) (o := .cells #[.int .i64 1, .int .i64 2, .string (⟨#[97]⟩ : ByteArray), .string (⟨#[120]⟩ : ByteArray), .int .i64 3] 23 (0, 0)) (by (with_reducible repeat (first | refine blk_drewN ?_ _ | refine blk_drew ?_ | refine blk_alloc ?_ _)); refine blk_far ?_ NB154_163.out _; (with_reducible repeat (first | refine blk_drewN ?_ _ | refine blk_drew ?_ | refine blk_alloc ?_ _)); refine blk_far ?_ NB154_163.out _; (with_reducible repeat (first | refine blk_drewN ?_ _ | refine blk_drew ?_ | refine blk_alloc ?_ _)); refine blk_far ?_ NB154_163.out _; (with_reducible repeat (first | refine blk_drewN ?_ _ | refine blk_drew ?_ | refine blk_alloc ?_ _)); refine blk_far ?_ NB154_163.out _; (with_reducible repeat (first | refine blk_drewN ?_ _ | refine blk_drew ?_ | refine blk_alloc ?_ _)); refine blk_far ?_ NB154_163.out _; (with_reducible repeat (first | refine blk_drewN ?_ _ | refine blk_drew ?_ | refine blk_alloc ?_ _)); exact BK154.out) hb); have n1_ := Aside0.mk (blk_below (g := gb163) (o := .cells #[.int .i64 t156, .int .i64 t157, .string t158, .string t159, .int .i64 t160] 23 (0, 0)) (by (with_reducible repeat (first | refine blk_drewN ?_ _ | refine blk_drew ?_ | refine blk_alloc ?_ _)); refine blk_put (cs := #[.int .i64 t156, .int .i64 t157, .string t158, .string t159, .int .i64 0]) ?_ 4 _ rfl; (with_reducible repeat (first | refine blk_drewN ?_ _ | refine blk_drew ?_ | refine blk_alloc ?_ _)); refine blk_put (cs := #[.int .i64 t156, .int .i64 t157, .string t158, .string (⟨#[]⟩ : ByteArray), .int .i64 0]) ?_ 3 _ rfl; (with_reducible repeat (first | refine blk_drewN ?_ _ | refine blk_drew ?_ | refine blk_alloc ?_ _)); refine blk_put (cs := #[.int .i64 t156, .int .i64 t157, .string (⟨#[]⟩ : ByteArray), .string (⟨#[]⟩ : ByteArray), .int .i64 0]) ?_ 2 _ rfl; (with_reducible repeat (first | refine blk_drewN ?_ _ | refine blk_drew ?_ | refine blk_alloc ?_ _)); refine blk_put (cs := #[.int .i64 t156, .int .i64 0, .string (⟨#[]⟩ : ByteArray), .string (⟨#[]⟩ : ByteArray), .int .i64 0]) ?_ 1 _ rfl; (with_reducible repeat (first | refine blk_drewN ?_ _ | refine blk_drew ?_ | refine blk_alloc ?_ _)); refine blk_put (cs := #[.int .i64 0, .int .i64 0, .string (⟨#[]⟩ : ByteArray), .string (⟨#[]⟩ : ByteArray), .int .i64 0]) ?_ 0 _ rfl; (with_reducible repeat (first | refine blk_drewN ?_ _ | refine blk_drew ?_ | refine blk_alloc ?_ _)); exact BK163.out) hb); have n2_ := Aside0.mk (below_step (by repeat (first | (with_reducible first | exact HB.out | apply below_alloc | apply pw_below_drewN | apply below_drew1 | refine below_set ?_ GE154.out | refine below_set ?_ GE163.out) | exact HB.out)) hb); clear BK154; clear BK163; clear HB; have BK154 := n0_; have BK163 := n1_; have HB := n2_; clear n0_ n1_ n2_; (try clear hb); (try clear hb2); (try clear hk); (try clear hi)) | ((with_reducible refine gate_dst (N := 6) rfl ?_); (try (refine gate_guard (by rfl) ?_; dsimp only)); refine box_event ?hg (N := 6) ?hd (cs := #[.int .i64 0, .int .i64 0, .string (⟨#[]⟩ : ByteArray), .string (⟨#[]⟩ : ByteArray), .int .i64 0]) (t := 23) ?hr ?_; (case hd => rfl); (case hg => rfl); (case hr => first | (go_simp; done) | (go_simp; rfl)); intro gb171 hg w47 hbox hb; have n0_ := Aside0.mk (blk_below (g := gb154) (o := .cells #[.int .i64 1, .int .i64 2, .string (⟨#[97]⟩ : ByteArray), .string (⟨#[120]⟩ : ByteArray), .int .i64 3] 23 (0, 0)) (by (with_reducible repeat (first | refine blk_drewN ?_ _ | refine blk_drew ?_ | refine blk_alloc ?_ _)); exact BK154.out) hb); have n1_ := Aside0.mk (blk_below (g := gb163) (o := .cells #[.int .i64 t156, .int .i64 t157, .string t158, .string t159, .int .i64 t160] 23 (0, 0)) (by (with_reducible repeat (first | refine blk_drewN ?_ _ | refine blk_drew ?_ | refine blk_alloc ?_ _)); exact BK163.out) hb); have n2_ := Aside0.mk (below_step (by repeat (first | (with_reducible first | exact HB.out | apply below_alloc | apply pw_below_drewN | apply below_drew1 | refine below_set ?_ GE154.out | refine below_set ?_ GE163.out) | exact HB.out)) hb); have n3_ := Aside0.mk (hbox); have n4_ := Aside0.mk ((by rw [hg]; exact (below_size (by repeat (first | (with_reducible first | exact HB.out | apply below_alloc | apply pw_below_drewN | apply below_drew1 | refine below_set ?_ GE154.out | refine below_set ?_ GE163.out) | exact HB.out))) : w.heap.size ≤ gb171)); have n5_ := Aside0.mk ((by rw [hg]; exact (below_size (by repeat (first | (with_reducible first | exact HB.out | apply below_alloc | apply pw_below_drewN | apply below_drew1 | refine below_set ?_ GE154.out | refine below_set ?_ GE163.out) | exact HB.out))) : w.heap.size ≤ gb171)); have n6_ := Aside0.mk ((by rw [hg]; exact Nat.ne_of_lt (blk_lt (g := gb154) (o := .cells #[.int .i64 1, .int .i64 2, .string (⟨#[97]⟩ : ByteArray), .string (⟨#[120]⟩ : ByteArray), .int .i64 3] 23 (0, 0)) (by (with_reducible repeat (first | refine blk_drewN ?_ _ | refine blk_drew ?_ | refine blk_alloc ?_ _)); exact BK154.out)) : gb154 ≠ gb171)); have n7_ := Aside0.mk ((by rw [hg]; exact Nat.ne_of_gt (blk_lt (g := gb154) (o := .cells #[.int .i64 1, .int .i64 2, .string (⟨#[97]⟩ : ByteArray), .string (⟨#[120]⟩ : ByteArray), .int .i64 3] 23 (0, 0)) (by (with_reducible repeat (first | refine blk_drewN ?_ _ | refine blk_drew ?_ | refine blk_alloc ?_ _)); exact BK154.out)) : gb171 ≠ gb154)); have n8_ := Aside0.mk ((by rw [hg]; exact Nat.ne_of_lt (blk_lt (g := gb163) (o := .cells #[.int .i64 t156, .int .i64 t157, .string t158, .string t159, .int .i64 t160] 23 (0, 0)) (by (with_reducible repeat (first | refine blk_drewN ?_ _ | refine blk_drew ?_ | refine blk_alloc ?_ _)); exact BK163.out)) : gb163 ≠ gb171)); have n9_ := Aside0.mk ((by rw [hg]; exact Nat.ne_of_gt (blk_lt (g := gb163) (o := .cells #[.int .i64 t156, .int .i64 t157, .string t158, .string t159, .int .i64 t160] 23 (0, 0)) (by (with_reducible repeat (first | refine blk_drewN ?_ _ | refine blk_drew ?_ | refine blk_alloc ?_ _)); exact BK163.out)) : gb171 ≠ gb163)); clear BK154; clear BK163; clear HB; have BK154 := n0_; have BK163 := n1_; have HB := n2_; have BK171 := n3_; have GW171 := n4_; have GE171 := n5_; have NB154_171 := n6_; have NB171_154 := n7_; have NB163_171 := n8_; have NB171_163 := n9_; clear n0_ n1_ n2_ n3_ n4_ n5_ n6_ n7_ n8_ n9_; clear hb hbox hg; have hnb48 := NB171_154.out; have hnc48 := NB154_171.out; have hnb49 := NB171_163.out; have hnc49 := NB163_171.out; have hcz50_0 : w47.cell? ⟨gb171, 0, none⟩ = some (.int .i64 0) := (blk_cell BK171.out 0).trans rfl; have hcz50_1 : w47.cell? ⟨gb171, 1, none⟩ = some (.int .i64 0) := (blk_cell BK171.out 1).trans rfl; have hcz50_2 : w47.cell? ⟨gb171, 2, none⟩ = some (.string (⟨#[]⟩ : ByteArray)) := (blk_cell BK171.out 2).trans rfl; have hcz50_3 : w47.cell? ⟨gb171, 3, none⟩ = some (.string (⟨#[]⟩ : ByteArray)) := (blk_cell BK171.out 3).trans rfl; have hcz50_4 : w47.cell? ⟨gb171, 4, none⟩ = some (.int .i64 0) := (blk_cell BK171.out 4).trans rfl; have hfz50_0 := blk_frozen BK171.out 0; have hfz50_1 := blk_frozen BK171.out 1; have hfz50_2 := blk_frozen BK171.out 2; have hfz50_3 := blk_frozen BK171.out 3; have hfz50_4 := blk_frozen BK171.out 4) | ((with_reducible refine gate_callee (f := 22) rfl ?_); refine goesL_ (some 37) rfl rfl Tryd.func22 (by kernel_rfl) rfl #[.string (⟨#[1, 2]⟩ : ByteArray), .int .i64 0] rfl (by (try simp only [List.map_toArray, List.map_cons, List.map_nil]); first | done | rfl | (simp only [List.length_drop, List.length_take]; rfl)) ?_; (with_reducible refine (event_Get.calls (⟨#[1, 2]⟩ : ByteArray) 0 t172 t173 t174 t175 t176 t177 t178 _ A5.out).mono ?_); rintro e w51 ⟨rfl, hb⟩; refine ⟨_, rfl, ?_⟩; have n0_ := Aside0.mk (blk_below (g := gb154) (o := .cells #[.int .i64 1, .int .i64 2, .string (⟨#[97]⟩ : ByteArray), .string (⟨#[120]⟩ : ByteArray), .int .i64 3] 23 (0, 0)) (by (with_reducible repeat (first | refine blk_drewN ?_ _ | refine blk_drew ?_ | refine blk_alloc ?_ _)); refine blk_far ?_ NB154_171.out _; (with_reducible repeat (first | refine blk_drewN ?_ _ | refine blk_drew ?_ | refine blk_alloc ?_ _)); refine blk_far ?_ NB154_171.out _; (with_reducible repeat (first | refine blk_drewN ?_ _ | refine blk_drew ?_ | refine blk_alloc ?_ _)); refine blk_far ?_ NB154_171.out _; (with_reducible repeat (first | refine blk_drewN ?_ _ | refine blk_drew ?_ | refine blk_alloc ?_ _)); refine blk_far ?_ NB154_171.out _; (with_reducible repeat (first | refine blk_drewN ?_ _ | refine blk_drew ?_ | refine blk_alloc ?_ _)); refine blk_far ?_ NB154_171.out _; (with_reducible repeat (first | refine blk_drewN ?_ _ | refine blk_drew ?_ | refine blk_alloc ?_ _)); exact BK154.out) hb); have n1_ := Aside0.mk (blk_below (g := gb163) (o := .cells #[.int .i64 t156, .int .i64 t157, .string t158, .string t159, .int .i64 t160] 23 (0, 0)) (by (with_reducible repeat (first | refine blk_drewN ?_ _ | refine blk_drew ?_ | refine blk_alloc ?_ _)); refine blk_far ?_ NB163_171.out _; (with_reducible repeat (first | refine blk_drewN ?_ _ | refine blk_drew ?_ | refine blk_alloc ?_ _)); refine blk_far ?_ NB163_171.out _; (with_reducible repeat (first | refine blk_drewN ?_ _ | refine blk_drew ?_ | refine blk_alloc ?_ _)); refine blk_far ?_ NB163_171.out _; (with_reducible repeat (first | refine blk_drewN ?_ _ | refine blk_drew ?_ | refine blk_alloc ?_ _)); refine blk_far ?_ NB163_171.out _; (with_reducible repeat (first | refine blk_drewN ?_ _ | refine blk_drew ?_ | refine blk_alloc ?_ _)); refine blk_far ?_ NB163_171.out _; (with_reducible repeat (first | refine blk_drewN ?_ _ | refine blk_drew ?_ | refine blk_alloc ?_ _)); exact BK163.out) hb); have n2_ := Aside0.mk (blk_below (g := gb171) (o := .cells #[.int .i64 t164, .int .i64 t165, .string t166, .string t167, .int .i64 t168] 23 (0, 0)) (by (with_reducible repeat (first | refine blk_drewN ?_ _ | refine blk_drew ?_ | refine blk_alloc ?_ _)); refine blk_put (cs := #[.int .i64 t164, .int .i64 t165, .string t166, .string t167, .int .i64 0]) ?_ 4 _ rfl; (with_reducible repeat (first | refine blk_drewN ?_ _ | refine blk_drew ?_ | refine blk_alloc ?_ _)); refine blk_put (cs := #[.int .i64 t164, .int .i64 t165, .string t166, .string (⟨#[]⟩ : ByteArray), .int .i64 0]) ?_ 3 _ rfl; (with_reducible repeat (first | refine blk_drewN ?_ _ | refine blk_drew ?_ | refine blk_alloc ?_ _)); refine blk_put (cs := #[.int .i64 t164, .int .i64 t165, .string (⟨#[]⟩ : ByteArray), .string (⟨#[]⟩ : ByteArray), .int .i64 0]) ?_ 2 _ rfl; (with_reducible repeat (first | refine blk_drewN ?_ _ | refine blk_drew ?_ | refine blk_alloc ?_ _)); refine blk_put (cs := #[.int .i64 t164, .int .i64 0, .string (⟨#[]⟩ : ByteArray), .string (⟨#[]⟩ : ByteArray), .int .i64 0]) ?_ 1 _ rfl; (with_reducible repeat (first | refine blk_drewN ?_ _ | refine blk_drew ?_ | refine blk_alloc ?_ _)); refine blk_put (cs := #[.int .i64 0, .int .i64 0, .string (⟨#[]⟩ : ByteArray), .string (⟨#[]⟩ : ByteArray), .int .i64 0]) ?_ 0 _ rfl; (with_reducible repeat (first | refine blk_drewN ?_ _ | refine blk_drew ?_ | refine blk_alloc ?_ _)); exact BK171.out) hb); have n3_ := Aside0.mk (below_step (by repeat (first | (with_reducible first | exact HB.out | apply below_alloc | apply pw_below_drewN | apply below_drew1 | refine below_set ?_ GE154.out | refine below_set ?_ GE163.out | refine below_set ?_ GE171.out) | exact HB.out)) hb); clear BK154; clear BK163; clear BK171; clear HB; have BK154 := n0_; have BK163 := n1_; have BK171 := n2_; have HB := n3_; clear n0_ n1_ n2_ n3_; (try clear hb); (try clear hb2); (try clear hk); (try clear hi)) | ((with_reducible refine gate_dst (N := 9) rfl ?_); (try (refine gate_guard (by rfl) ?_; dsimp only)); refine box_event ?hg (N := 9) ?hd (cs := #[.int .i64 0, .int .i64 0, .string (⟨#[]⟩ : ByteArray), .string (⟨#[]⟩ : ByteArray), .int .i64 0]) (t := 23) ?hr ?_; (case hd => rfl); (case hg => rfl); (case hr => first | (go_simp; done) | (go_simp; rfl)); intro gb179 hg w52 hbox hb; have n0_ := Aside0.mk (blk_below (g := gb154) (o := .cells #[.int .i64 1, .int .i64 2, .string (⟨#[97]⟩ : ByteArray), .string (⟨#[120]⟩ : ByteArray), .int .i64 3] 23 (0, 0)) (by (with_reducible repeat (first | refine blk_drewN ?_ _ | refine blk_drew ?_ | refine blk_alloc ?_ _)); exact BK154.out) hb); have n1_ := Aside0.mk (blk_below (g := gb163) (o := .cells #[.int .i64 t156, .int .i64 t157, .string t158, .string t159, .int .i64 t160] 23 (0, 0)) (by (with_reducible repeat (first | refine blk_drewN ?_ _ | refine blk_drew ?_ | refine blk_alloc ?_ _)); exact BK163.out) hb); have n2_ := Aside0.mk (blk_below (g := gb171) (o := .cells #[.int .i64 t164, .int .i64 t165, .string t166, .string t167, .int .i64 t168] 23 (0, 0)) (by (with_reducible repeat (first | refine blk_drewN ?_ _ | refine blk_drew ?_ | refine blk_alloc ?_ _)); exact BK171.out) hb); have n3_ := Aside0.mk (below_step (by repeat (first | (with_reducible first | exact HB.out | apply below_alloc | apply pw_below_drewN | apply below_drew1 | refine below_set ?_ GE154.out | refine below_set ?_ GE163.out | refine below_set ?_ GE171.out) | exact HB.out)) hb); have n4_ := Aside0.mk (hbox); have n5_ := Aside0.mk ((by rw [hg]; exact (below_size (by repeat (first | (with_reducible first | exact HB.out | apply below_alloc | apply pw_below_drewN | apply below_drew1 | refine below_set ?_ GE154.out | refine below_set ?_ GE163.out | refine below_set ?_ GE171.out) | exact HB.out))) : w.heap.size ≤ gb179)); have n6_ := Aside0.mk ((by rw [hg]; exact (below_size (by repeat (first | (with_reducible first | exact HB.out | apply below_alloc | apply pw_below_drewN | apply below_drew1 | refine below_set ?_ GE154.out | refine below_set ?_ GE163.out | refine below_set ?_ GE171.out) | exact HB.out))) : w.heap.size ≤ gb179)); have n7_ := Aside0.mk ((by rw [hg]; exact Nat.ne_of_lt (blk_lt (g := gb154) (o := .cells #[.int .i64 1, .int .i64 2, .string (⟨#[97]⟩ : ByteArray), .string (⟨#[120]⟩ : ByteArray), .int .i64 3] 23 (0, 0)) (by (with_reducible repeat (first | refine blk_drewN ?_ _ | refine blk_drew ?_ | refine blk_alloc ?_ _)); exact BK154.out)) : gb154 ≠ gb179)); have n8_ := Aside0.mk ((by rw [hg]; exact Nat.ne_of_gt (blk_lt (g := gb154) (o := .cells #[.int .i64 1, .int .i64 2, .string (⟨#[97]⟩ : ByteArray), .string (⟨#[120]⟩ : ByteArray), .int .i64 3] 23 (0, 0)) (by (with_reducible repeat (first | refine blk_drewN ?_ _ | refine blk_drew ?_ | refine blk_alloc ?_ _)); exact BK154.out)) : gb179 ≠ gb154)); have n9_ := Aside0.mk ((by rw [hg]; exact Nat.ne_of_lt (blk_lt (g := gb163) (o := .cells #[.int .i64 t156, .int .i64 t157, .string t158, .string t159, .int .i64 t160] 23 (0, 0)) (by (with_reducible repeat (first | refine blk_drewN ?_ _ | refine blk_drew ?_ | refine blk_alloc ?_ _)); exact BK163.out)) : gb163 ≠ gb179)); have n10_ := Aside0.mk ((by rw [hg]; exact Nat.ne_of_gt (blk_lt (g := gb163) (o := .cells #[.int .i64 t156, .int .i64 t157, .string t158, .string t159, .int .i64 t160] 23 (0, 0)) (by (with_reducible repeat (first | refine blk_drewN ?_ _ | refine blk_drew ?_ | refine blk_alloc ?_ _)); exact BK163.out)) : gb179 ≠ gb163)); have n11_ := Aside0.mk ((by rw [hg]; exact Nat.ne_of_lt (blk_lt (g := gb171) (o := .cells #[.int .i64 t164, .int .i64 t165, .string t166, .string t167, .int .i64 t168] 23 (0, 0)) (by (with_reducible repeat (first | refine blk_drewN ?_ _ | refine blk_drew ?_ | refine blk_alloc ?_ _)); exact BK171.out)) : gb171 ≠ gb179)); have n12_ := Aside0.mk ((by rw [hg]; exact Nat.ne_of_gt (blk_lt (g := gb171) (o := .cells #[.int .i64 t164, .int .i64 t165, .string t166, .string t167, .int .i64 t168] 23 (0, 0)) (by (with_reducible repeat (first | refine blk_drewN ?_ _ | refine blk_drew ?_ | refine blk_alloc ?_ _)); exact BK171.out)) : gb179 ≠ gb171)); clear BK154; clear BK163; clear BK171; clear HB; have BK154 := n0_; have BK163 := n1_; have BK171 := n2_; have HB := n3_; have BK179 := n4_; have GW179 := n5_; have GE179 := n6_; have NB154_179 := n7_; have NB179_154 := n8_; have NB163_179 := n9_; have NB179_163 := n10_; have NB171_179 := n11_; have NB179_171 := n12_; clear n0_ n1_ n2_ n3_ n4_ n5_ n6_ n7_ n8_ n9_ n10_ n11_ n12_; clear hb hbox hg; have hnb53 := NB179_154.out; have hnc53 := NB154_179.out; have hnb54 := NB179_163.out; have hnc54 := NB163_179.out; have hnb55 := NB179_171.out; have hnc55 := NB171_179.out; have hcz56_0 : w52.cell? ⟨gb179, 0, none⟩ = some (.int .i64 0) := (blk_cell BK179.out 0).trans rfl; have hcz56_1 : w52.cell? ⟨gb179, 1, none⟩ = some (.int .i64 0) := (blk_cell BK179.out 1).trans rfl; have hcz56_2 : w52.cell? ⟨gb179, 2, none⟩ = some (.string (⟨#[]⟩ : ByteArray)) := (blk_cell BK179.out 2).trans rfl; have hcz56_3 : w52.cell? ⟨gb179, 3, none⟩ = some (.string (⟨#[]⟩ : ByteArray)) := (blk_cell BK179.out 3).trans rfl; have hcz56_4 : w52.cell? ⟨gb179, 4, none⟩ = some (.int .i64 0) := (blk_cell BK179.out 4).trans rfl; have hfz56_0 := blk_frozen BK179.out 0; have hfz56_1 := blk_frozen BK179.out 1; have hfz56_2 := blk_frozen BK179.out 2; have hfz56_3 := blk_frozen BK179.out 3; have hfz56_4 := blk_frozen BK179.out 4) | ((with_reducible refine gate_callee (f := 24) rfl ?_); refine goesL_ (some 42) rfl rfl Tryd.func24 (by kernel_rfl) rfl #[.string (⟨#[2, 0, 5, 3, 1]⟩ : ByteArray), .int .i64 0] rfl (by (try simp only [List.map_toArray, List.map_cons, List.map_nil]); first | done | rfl | (simp only [List.length_drop, List.length_take]; rfl)) ?_; (with_reducible refine (event_Cut.calls (⟨#[2, 0, 5, 3, 1]⟩ : ByteArray) 0 t180 t181 t182 _ A6.out).mono ?_); rintro e w57 ⟨v183, rfl, ho0, hb⟩; refine ⟨_, rfl, ?_⟩; have n0_ := Aside0.mk (Kd.R_lower ho0 (below_size (by repeat (first | (with_reducible first | exact HB.out | apply below_alloc | apply pw_below_drewN | apply below_drew1 | refine below_set ?_ GE154.out | refine below_set ?_ GE163.out | refine below_set ?_ GE171.out | refine below_set ?_ GE179.out) | exact HB.out)))); have n1_ := Aside0.mk (blk_below (g := gb154) (o := .cells #[.int .i64 1, .int .i64 2, .string (⟨#[97]⟩ : ByteArray), .string (⟨#[120]⟩ : ByteArray), .int .i64 3] 23 (0, 0)) (by (with_reducible repeat (first | refine blk_drewN ?_ _ | refine blk_drew ?_ | refine blk_alloc ?_ _)); refine blk_far ?_ NB154_179.out _; (with_reducible repeat (first | refine blk_drewN ?_ _ | refine blk_drew ?_ | refine blk_alloc ?_ _)); refine blk_far ?_ NB154_179.out _; (with_reducible repeat (first | refine blk_drewN ?_ _ | refine blk_drew ?_ | refine blk_alloc ?_ _)); refine blk_far ?_ NB154_179.out _; (with_reducible repeat (first | refine blk_drewN ?_ _ | refine blk_drew ?_ | refine blk_alloc ?_ _)); refine blk_far ?_ NB154_179.out _; (with_reducible repeat (first | refine blk_drewN ?_ _ | refine blk_drew ?_ | refine blk_alloc ?_ _)); refine blk_far ?_ NB154_179.out _; (with_reducible repeat (first | refine blk_drewN ?_ _ | refine blk_drew ?_ | refine blk_alloc ?_ _)); exact BK154.out) hb); have n2_ := Aside0.mk (blk_below (g := gb163) (o := .cells #[.int .i64 t156, .int .i64 t157, .string t158, .string t159, .int .i64 t160] 23 (0, 0)) (by (with_reducible repeat (first | refine blk_drewN ?_ _ | refine blk_drew ?_ | refine blk_alloc ?_ _)); refine blk_far ?_ NB163_179.out _; (with_reducible repeat (first | refine blk_drewN ?_ _ | refine blk_drew ?_ | refine blk_alloc ?_ _)); refine blk_far ?_ NB163_179.out _; (with_reducible repeat (first | refine blk_drewN ?_ _ | refine blk_drew ?_ | refine blk_alloc ?_ _)); refine blk_far ?_ NB163_179.out _; (with_reducible repeat (first | refine blk_drewN ?_ _ | refine blk_drew ?_ | refine blk_alloc ?_ _)); refine blk_far ?_ NB163_179.out _; (with_reducible repeat (first | refine blk_drewN ?_ _ | refine blk_drew ?_ | refine blk_alloc ?_ _)); refine blk_far ?_ NB163_179.out _; (with_reducible repeat (first | refine blk_drewN ?_ _ | refine blk_drew ?_ | refine blk_alloc ?_ _)); exact BK163.out) hb); have n3_ := Aside0.mk (blk_below (g := gb171) (o := .cells #[.int .i64 t164, .int .i64 t165, .string t166, .string t167, .int .i64 t168] 23 (0, 0)) (by (with_reducible repeat (first | refine blk_drewN ?_ _ | refine blk_drew ?_ | refine blk_alloc ?_ _)); refine blk_far ?_ NB171_179.out _; (with_reducible repeat (first | refine blk_drewN ?_ _ | refine blk_drew ?_ | refine blk_alloc ?_ _)); refine blk_far ?_ NB171_179.out _; (with_reducible repeat (first | refine blk_drewN ?_ _ | refine blk_drew ?_ | refine blk_alloc ?_ _)); refine blk_far ?_ NB171_179.out _; (with_reducible repeat (first | refine blk_drewN ?_ _ | refine blk_drew ?_ | refine blk_alloc ?_ _)); refine blk_far ?_ NB171_179.out _; (with_reducible repeat (first | refine blk_drewN ?_ _ | refine blk_drew ?_ | refine blk_alloc ?_ _)); refine blk_far ?_ NB171_179.out _; (with_reducible repeat (first | refine blk_drewN ?_ _ | refine blk_drew ?_ | refine blk_alloc ?_ _)); exact BK171.out) hb); have n4_ := Aside0.mk (blk_below (g := gb179) (o := .cells #[.int .i64 t172, .int .i64 t173, .string t174, .string t175, .int .i64 t176] 23 (0, 0)) (by (with_reducible repeat (first | refine blk_drewN ?_ _ | refine blk_drew ?_ | refine blk_alloc ?_ _)); refine blk_put (cs := #[.int .i64 t172, .int .i64 t173, .string t174, .string t175, .int .i64 0]) ?_ 4 _ rfl; (with_reducible repeat (first | refine blk_drewN ?_ _ | refine blk_drew ?_ | refine blk_alloc ?_ _)); refine blk_put (cs := #[.int .i64 t172, .int .i64 t173, .string t174, .string (⟨#[]⟩ : ByteArray), .int .i64 0]) ?_ 3 _ rfl; (with_reducible repeat (first | refine blk_drewN ?_ _ | refine blk_drew ?_ | refine blk_alloc ?_ _)); refine blk_put (cs := #[.int .i64 t172, .int .i64 t173, .string (⟨#[]⟩ : ByteArray), .string (⟨#[]⟩ : ByteArray), .int .i64 0]) ?_ 2 _ rfl; (with_reducible repeat (first | refine blk_drewN ?_ _ | refine blk_drew ?_ | refine blk_alloc ?_ _)); refine blk_put (cs := #[.int .i64 t172, .int .i64 0, .string (⟨#[]⟩ : ByteArray), .string (⟨#[]⟩ : ByteArray), .int .i64 0]) ?_ 1 _ rfl; (with_reducible repeat (first | refine blk_drewN ?_ _ | refine blk_drew ?_ | refine blk_alloc ?_ _)); refine blk_put (cs := #[.int .i64 0, .int .i64 0, .string (⟨#[]⟩ : ByteArray), .string (⟨#[]⟩ : ByteArray), .int .i64 0]) ?_ 0 _ rfl; (with_reducible repeat (first | refine blk_drewN ?_ _ | refine blk_drew ?_ | refine blk_alloc ?_ _)); exact BK179.out) hb); have n5_ := Aside0.mk (below_step (by repeat (first | (with_reducible first | exact HB.out | apply below_alloc | apply pw_below_drewN | apply below_drew1 | refine below_set ?_ GE154.out | refine below_set ?_ GE163.out | refine below_set ?_ GE171.out | refine below_set ?_ GE179.out) | exact HB.out)) hb); clear BK154; clear BK163; clear BK171; clear BK179; clear HB; have HO184 := n0_; have BK154 := n1_; have BK163 := n2_; have BK171 := n3_; have BK179 := n4_; have HB := n5_; clear n0_ n1_ n2_ n3_ n4_ n5_; (try clear hb); (try clear hb2); (try clear hk); (try clear hi); (try clear ho0)) | ((with_reducible refine gate_callee (f := 24) rfl ?_); refine goesL_ (some 47) rfl rfl Tryd.func24 (by kernel_rfl) rfl #[.string (⟨#[2, 3, 5, 3, 1]⟩ : ByteArray), .int .i64 0] rfl (by (try simp only [List.map_toArray, List.map_cons, List.map_nil]); first | done | rfl | (simp only [List.length_drop, List.length_take]; rfl)) ?_; (with_reducible refine (event_Cut.calls (⟨#[2, 3, 5, 3, 1]⟩ : ByteArray) 0 t185 t186 t187 _ A7.out).mono ?_); rintro e w58 ⟨v188, rfl, ho0, hb⟩; refine ⟨_, rfl, ?_⟩; have n0_ := Aside0.mk (Kd.R_elder' (by (with_reducible repeat (first | apply Kd.R_alloc | apply Kd.R_drewN | apply Kd.R_drew)); exact HO184.out) (Kd.R_base ho0) hb); have n1_ := Aside0.mk (Kd.R_lower (Kd.R_new' ho0 (Kd.R_lt (by (with_reducible repeat (first | apply Kd.R_alloc | apply Kd.R_drewN | apply Kd.R_drew)); exact HO184.out))) (below_size (by repeat (first | (with_reducible first | exact HB.out | apply below_alloc | apply pw_below_drewN | apply below_drew1 | refine below_set ?_ GE154.out | refine below_set ?_ GE163.out | refine below_set ?_ GE171.out | refine below_set ?_ GE179.out) | exact HB.out)))); have n2_ := Aside0.mk (blk_below (g := gb154) (o := .cells #[.int .i64 1, .int .i64 2, .string (⟨#[97]⟩ : ByteArray), .string (⟨#[120]⟩ : ByteArray), .int .i64 3] 23 (0, 0)) (by (with_reducible repeat (first | refine blk_drewN ?_ _ | refine blk_drew ?_ | refine blk_alloc ?_ _)); exact BK154.out) hb); have n3_ := Aside0.mk (blk_below (g := gb163) (o := .cells #[.int .i64 t156, .int .i64 t157, .string t158, .string t159, .int .i64 t160] 23 (0, 0)) (by (with_reducible repeat (first | refine blk_drewN ?_ _ | refine blk_drew ?_ | refine blk_alloc ?_ _)); exact BK163.out) hb); have n4_ := Aside0.mk (blk_below (g := gb171) (o := .cells #[.int .i64 t164, .int .i64 t165, .string t166, .string t167, .int .i64 t168] 23 (0, 0)) (by (with_reducible repeat (first | refine blk_drewN ?_ _ | refine blk_drew ?_ | refine blk_alloc ?_ _)); exact BK171.out) hb); have n5_ := Aside0.mk (blk_below (g := gb179) (o := .cells #[.int .i64 t172, .int .i64 t173, .string t174, .string t175, .int .i64 t176] 23 (0, 0)) (by (with_reducible repeat (first | refine blk_drewN ?_ _ | refine blk_drew ?_ | refine blk_alloc ?_ _)); exact BK179.out) hb); have n6_ := Aside0.mk (below_step (by repeat (first | (with_reducible first | exact HB.out | apply below_alloc | apply pw_below_drewN | apply below_drew1 | refine below_set ?_ GE154.out | refine below_set ?_ GE163.out | refine below_set ?_ GE171.out | refine below_set ?_ GE179.out) | exact HB.out)) hb); clear HO184; clear BK154; clear BK163; clear BK171; clear BK179; clear HB; have HO184 := n0_; have HO189 := n1_; have BK154 := n2_; have BK163 := n3_; have BK171 := n4_; have BK179 := n5_; have HB := n6_; clear n0_ n1_ n2_ n3_ n4_ n5_ n6_; (try clear hb); (try clear hb2); (try clear hk); (try clear hi); (try clear ho0)) | ((with_reducible refine gate_callee (f := 24) rfl ?_); refine goesL_ (some 52) rfl rfl Tryd.func24 (by kernel_rfl) rfl #[.string (⟨#[33]⟩ : ByteArray), .int .i64 0] rfl (by (try simp only [List.map_toArray, List.map_cons, List.map_nil]); first | done | rfl | (simp only [List.length_drop, List.length_take]; rfl)) ?_; (with_reducible refine (event_Cut.calls (⟨#[33]⟩ : ByteArray) 0 t190 t191 t192 _ A8.out).mono ?_); rintro e w59 ⟨v193, rfl, ho0, hb⟩; refine ⟨_, rfl, ?_⟩; have n0_ := Aside0.mk (Kd.R_elder' (by (with_reducible repeat (first | apply Kd.R_alloc | apply Kd.R_drewN | apply Kd.R_drew)); exact HO184.out) (Kd.R_base ho0) hb); have n1_ := Aside0.mk (Kd.R_elder' (by (with_reducible repeat (first | apply Kd.R_alloc | apply Kd.R_drewN | apply Kd.R_drew)); exact HO189.out) (Kd.R_base ho0) hb); have n2_ := Aside0.mk (Kd.R_lower (Kd.R_new' (Kd.R_new' ho0 (Kd.R_lt (by (with_reducible repeat (first | apply Kd.R_alloc | apply Kd.R_drewN | apply Kd.R_drew)); exact HO184.out))) (Kd.R_lt (by (with_reducible repeat (first | apply Kd.R_alloc | apply Kd.R_drewN | apply Kd.R_drew)); exact HO189.out))) (below_size (by repeat (first | (with_reducible first | exact HB.out | apply below_alloc | apply pw_below_drewN | apply below_drew1 | refine below_set ?_ GE154.out | refine below_set ?_ GE163.out | refine below_set ?_ GE171.out | refine below_set ?_ GE179.out) | exact HB.out)))); have n3_ := Aside0.mk (blk_below (g := gb154) (o := .cells #[.int .i64 1, .int .i64 2, .string (⟨#[97]⟩ : ByteArray), .string (⟨#[120]⟩ : ByteArray), .int .i64 3] 23 (0, 0)) (by (with_reducible repeat (first | refine blk_drewN ?_ _ | refine blk_drew ?_ | refine blk_alloc ?_ _)); exact BK154.out) hb); have n4_ := Aside0.mk (blk_below (g := gb163) (o := .cells #[.int .i64 t156, .int .i64 t157, .string t158, .string t159, .int .i64 t160] 23 (0, 0)) (by (with_reducible repeat (first | refine blk_drewN ?_ _ | refine blk_drew ?_ | refine blk_alloc ?_ _)); exact BK163.out) hb); have n5_ := Aside0.mk (blk_below (g := gb171) (o := .cells #[.int .i64 t164, .int .i64 t165, .string t166, .string t167, .int .i64 t168] 23 (0, 0)) (by (with_reducible repeat (first | refine blk_drewN ?_ _ | refine blk_drew ?_ | refine blk_alloc ?_ _)); exact BK171.out) hb); have n6_ := Aside0.mk (blk_below (g := gb179) (o := .cells #[.int .i64 t172, .int .i64 t173, .string t174, .string t175, .int .i64 t176] 23 (0, 0)) (by (with_reducible repeat (first | refine blk_drewN ?_ _ | refine blk_drew ?_ | refine blk_alloc ?_ _)); exact BK179.out) hb); have n7_ := Aside0.mk (below_step (by repeat (first | (with_reducible first | exact HB.out | apply below_alloc | apply pw_below_drewN | apply below_drew1 | refine below_set ?_ GE154.out | refine below_set ?_ GE163.out | refine below_set ?_ GE171.out | refine below_set ?_ GE179.out) | exact HB.out)) hb); clear HO184; clear HO189; clear BK154; clear BK163; clear BK171; clear BK179; clear HB; have HO184 := n0_; have HO189 := n1_; have HO194 := n2_; have BK154 := n3_; have BK163 := n4_; have BK171 := n5_; have BK179 := n6_; have HB := n7_; clear n0_ n1_ n2_ n3_ n4_ n5_ n6_ n7_; (try clear hb); (try clear hb2); (try clear hk); (try clear hi); (try clear ho0)))
                                          have n0_ := Aside0.mk (Kd.R_drew HO184.out)
                                          have n1_ := Aside0.mk (Kd.R_drew HO189.out)
                                          have n2_ := Aside0.mk (Kd.R_drew HO194.out)
                                          have n3_ := Aside0.mk (blk_drew BK154.out)
                                          have n4_ := Aside0.mk (blk_drew BK163.out)
                                          have n5_ := Aside0.mk (blk_drew BK171.out)
                                          have n6_ := Aside0.mk (blk_drew BK179.out)
                                          have n7_ := Aside0.mk (below_drew1 HB.out)
                                          clear HO184
                                          clear HO189
                                          clear HO194
                                          clear BK154
                                          clear BK163
                                          clear BK171
                                          clear BK179
                                          clear HB
                                          have HO184 := n0_
                                          have HO189 := n1_
                                          have HO194 := n2_
                                          have BK154 := n3_
                                          have BK163 := n4_
                                          have BK171 := n5_
                                          have BK179 := n6_
                                          have HB := n7_
                                          clear n0_ n1_ n2_ n3_ n4_ n5_ n6_ n7_
                                          refine start_ (n := 96) (S := fun w' => w'.cell? ⟨gb163, 0, none⟩ = some (.int .i64 t156) ∧ w'.cell? ⟨gb163, 1, none⟩ = some (.int .i64 t157) ∧ w'.cell? ⟨gb163, 2, none⟩ = some (.string t158) ∧ w'.cell? ⟨gb163, 3, none⟩ = some (.string t159) ∧ w'.cell? ⟨gb163, 4, none⟩ = some (.int .i64 t160) ∧ w'.cell? ⟨gb154, 0, none⟩ = some (.int .i64 1) ∧ w'.cell? ⟨gb154, 1, none⟩ = some (.int .i64 2) ∧ w'.cell? ⟨gb154, 2, none⟩ = some (.string (⟨#[97]⟩ : ByteArray)) ∧ w'.cell? ⟨gb154, 3, none⟩ = some (.string (⟨#[120]⟩ : ByteArray)) ∧ w'.cell? ⟨gb154, 4, none⟩ = some (.int .i64 3)) (ds := []) #[false, false, false, false, false, false, false, false, false, false, false, false, false, false, false, false, false, false, false, false, false, false, false, false, false, false, false, false, false, false, false, false, false, false, false, false, false, false, false, false, false, false, false, false, false, false, false, false, false, false, false, false, false, false, false, false, false, false, false, false, false, false, false, false, false, false, false, false, false, false, false, false, false, false, false, false, false, false, false, false, false, false, false, false, false, false, false, false, false, false, false, false, false, false, false, false] (by kernel_rfl) rfl rfl ⟨(blk_cell BK163.out 0).trans rfl, (blk_cell BK163.out 1).trans rfl, (blk_cell BK163.out 2).trans rfl, (blk_cell BK163.out 3).trans rfl, (blk_cell BK163.out 4).trans rfl, (blk_cell BK154.out 0).trans rfl, (blk_cell BK154.out 1).trans rfl, (blk_cell BK154.out 2).trans rfl, (blk_cell BK154.out 3).trans rfl, (blk_cell BK154.out 4).trans rfl⟩ (fun hHeld => ?_); refine with_tabW rivuletlaw06_fixed.tab9 rivuletlaw06_fixed.bits9 (fun HT_ HW_ => ?_)
                                          generalize w59.drew = w60 at HO184 HO189 HO194 BK154 BK163 BK171 BK179 HB hHeld ⊢
                                          refine pure_ (i := 0) (N := some 56) (v := ?_) (a' := ?_) #[true, false, false, false, false, false, false, false, false, false, false, false, false, false, false, false, false, false, false, false, false, false, false, false, false, false, false, false, false, false, false, false, false, false, false, false, false, false, false, false, false, false, false, false, false, false, false, false, false, false, false, false, false, false, false, false, false, false, false, false, false, false, false, false, false, false, false, false, false, false, false, false, false, false, false, false, false, false, false, false, false, false, false, false, false, false, false, false, false, false, false, false, false, false, false, false] rfl rfl (any_of HT_.out (by kernel_rfl)) (fun _ _ _ h => h) (Or.inl ⟨by rfl, ?_⟩) ?_ ?_
                                          rotate_left
                                          · intro w'
                                            go_simp
                                            with_reducible rfl
                                          rotate_left
                                          · simp only [Act.put, List.setIfInBounds_toArray, List.set_cons_zero, List.set_cons_succ, i64_w, i32_w]
                                            rfl
                                          refine pure_ (i := 1) (N := some 57) (v := ?_) (a' := ?_) #[true, true, false, false, false, false, false, false, false, false, false, false, false, false, false, false, false, false, false, false, false, false, false, false, false, false, false, false, false, false, false, false, false, false, false, false, false, false, false, false, false, false, false, false, false, false, false, false, false, false, false, false, false, false, false, false, false, false, false, false, false, false, false, false, false, false, false, false, false, false, false, false, false, false, false, false, false, false, false, false, false, false, false, false, false, false, false, false, false, false, false, false, false, false, false, false] rfl rfl (any_of HT_.out (by kernel_rfl)) (fun _ _ _ h => h) (Or.inl ⟨by rfl, ?_⟩) ?_ ?_
                                          rotate_left
                                          · intro w'
                                            go_simp
                                            with_reducible rfl
                                          rotate_left
                                          · simp only [Act.put, List.setIfInBounds_toArray, List.set_cons_zero, List.set_cons_succ, i64_w, i32_w]
                                            rfl
                                          refine pure_ (i := 2) (N := some 58) (v := ?_) (a' := ?_) #[true, true, true, false, false, false, false, false, false, false, false, false, false, false, false, false, false, false, false, false, false, false, false, false, false, false, false, false, false, false, false, false, false, false, false, false, false, false, false, false, false, false, false, false, false, false, false, false, false, false, false, false, false, false, false, false, false, false, false, false, false, false, false, false, false, false, false, false, false, false, false, false, false, false, false, false, false, false, false, false, false, false, false, false, false, false, false, false, false, false, false, false, false, false, false, false] rfl rfl (any_of HT_.out (by kernel_rfl)) (fun _ _ _ h => h) (Or.inl ⟨by rfl, ?_⟩) ?_ ?_
                                          rotate_left
                                          · intro w'
                                            go_simp
                                            with_reducible rfl
                                          rotate_left
                                          · simp only [Act.put, List.setIfInBounds_toArray, List.set_cons_zero, List.set_cons_succ, i64_w, i32_w]
                                            rfl
                                          refine take_ (i := 3) (N := some 59) (v := ?_) (a' := ?_) #[true, true, true, true, false, false, false, false, false, false, false, false, false, false, false, false, false, false, false, false, false, false, false, false, false, false, false, false, false, false, false, false, false, false, false, false, false, false, false, false, false, false, false, false, false, false, false, false, false, false, false, false, false, false, false, false, false, false, false, false, false, false, false, false, false, false, false, false, false, false, false, false, false, false, false, false, false, false, false, false, false, false, false, false, false, false, false, false, false, false, false, false, false, false, false, false] rfl rfl (take_ofW HT_.out HW_.out (by kernel_rfl)) (fun _ _ _ h => h) (Or.inl ⟨by rfl, ?_⟩) hHeld ?_ ?_
                                          rotate_left
                                          · rintro w' ⟨s0, s1, s2, s3, s4, s5, s6, s7, s8, s9⟩
                                            go_simp
                                            with_reducible rfl
                                          rotate_left
                                          · simp only [Act.put, List.setIfInBounds_toArray, List.set_cons_zero, List.set_cons_succ, i64_w, i32_w]
                                            rfl
                                          refine take_ (i := 4) (N := some 60) (v := ?_) (a' := ?_) #[true, true, true, true, true, false, false, false, false, false, false, false, false, false, false, false, false, false, false, false, false, false, false, false, false, false, false, false, false, false, false, false, false, false, false, false, false, false, false, false, false, false, false, false, false, false, false, false, false, false, false, false, false, false, false, false, false, false, false, false, false, false, false, false, false, false, false, false, false, false, false, false, false, false, false, false, false, false, false, false, false, false, false, false, false, false, false, false, false, false, false, false, false, false, false, false] rfl rfl (take_ofW HT_.out HW_.out (by kernel_rfl)) (fun _ _ _ h => h) (Or.inl ⟨by rfl, ?_⟩) hHeld ?_ ?_
                                          rotate_left
                                          · rintro w' ⟨s0, s1, s2, s3, s4, s5, s6, s7, s8, s9⟩
                                            go_simp
                                            with_reducible rfl
                                          rotate_left
                                          · simp only [Act.put, List.setIfInBounds_toArray, List.set_cons_zero, List.set_cons_succ, i64_w, i32_w]
                                            rfl
                                          refine pure_ (i := 5) (N := some 61) (v := ?_) (a' := ?_) #[true, true, true, true, true, true, false, false, false, false, false, false, false, false, false, false, false, false, false, false, false, false, false, false, false, false, false, false, false, false, false, false, false, false, false, false, false, false, false, false, false, false, false, false, false, false, false, false, false, false, false, false, false, false, false, false, false, false, false, false, false, false, false, false, false, false, false, false, false, false, false, false, false, false, false, false, false, false, false, false, false, false, false, false, false, false, false, false, false, false, false, false, false, false, false, false] rfl rfl (any_of HT_.out (by kernel_rfl)) (fun _ _ _ h => h) (Or.inl ⟨by rfl, ?_⟩) ?_ ?_
                                          rotate_left
                                          · intro w'
                                            go_simp
                                            with_reducible rfl
                                          rotate_left
                                          · simp only [Act.put, List.setIfInBounds_toArray, List.set_cons_zero, List.set_cons_succ, i64_w, i32_w]
                                            rfl
                                          refine pure_ (i := 6) (N := some 62) (v := ?_) (a' := ?_) #[true, true, true, true, true, true, true, false, false, false, false, false, false, false, false, false, false, false, false, false, false, false, false, false, false, false, false, false, false, false, false, false, false, false, false, false, false, false, false, false, false, false, false, false, false, false, false, false, false, false, false, false, false, false, false, false, false, false, false, false, false, false, false, false, false, false, false, false, false, false, false, false, false, false, false, false, false, false, false, false, false, false, false, false, false, false, false, false, false, false, false, false, false, false, false, false] rfl rfl (any_of HT_.out (by kernel_rfl)) (fun _ _ _ h => h) (Or.inl ⟨by rfl, ?_⟩) ?_ ?_
                                          rotate_left
                                          · intro w'
                                            go_simp
                                            with_reducible rfl
                                          rotate_left
                                          · simp only [Act.put, List.setIfInBounds_toArray, List.set_cons_zero, List.set_cons_succ, i64_w, i32_w]
                                            rfl
                                          refine pure_ (i := 7) (N := some 63) (v := ?_) (a' := ?_) #[true, true, true, true, true, true, true, true, false, false, false, false, false, false, false, false, false, false, false, false, false, false, false, false, false, false, false, false, false, false, false, false, false, false, false, false, false, false, false, false, false, false, false, false, false, false, false, false, false, false, false, false, false, false, false, false, false, false, false, false, false, false, false, false, false, false, false, false, false, false, false, false, false, false, false, false, false, false, false, false, false, false, false, false, false, false, false, false, false, false, false, false, false, false, false, false] rfl rfl (any_of HT_.out (by kernel_rfl)) (fun _ _ _ h => h) (Or.inl ⟨by rfl, ?_⟩) ?_ ?_
                                          rotate_left
                                          · intro w'
                                            go_simp
                                            with_reducible rfl
                                          rotate_left
                                          · simp only [Act.put, List.setIfInBounds_toArray, List.set_cons_zero, List.set_cons_succ, i64_w, i32_w]
                                            rfl
                                          refine pure_ (i := 8) (N := some 64) (v := ?_) (a' := ?_) #[true, true, true, true, true, true, true, true, true, false, false, false, false, false, false, false, false, false, false, false, false, false, false, false, false, false, false, false, false, false, false, false, false, false, false, false, false, false, false, false, false, false, false, false, false, false, false, false, false, false, false, false, false, false, false, false, false, false, false, false, false, false, false, false, false, false, false, false, false, false, false, false, false, false, false, false, false, false, false, false, false, false, false, false, false, false, false, false, false, false, false, false, false, false, false, false] rfl rfl (any_of HT_.out (by kernel_rfl)) (fun _ _ _ h => h) (Or.inl ⟨by rfl, ?_⟩) ?_ ?_
                                          rotate_left
                                          · intro w'
                                            go_simp
                                            with_reducible rfl
                                          rotate_left
                                          · simp only [Act.put, List.setIfInBounds_toArray, List.set_cons_zero, List.set_cons_succ, i64_w, i32_w]
                                            rfl
                                          refine pure_ (i := 9) (N := some 65) (v := ?_) (a' := ?_) #[true, true, true, true, true, true, true, true, true, true, false, false, false, false, false, false, false, false, false, false, false, false, false, false, false, false, false, false, false, false, false, false, false, false, false, false, false, false, false, false, false, false, false, false, false, false, false, false, false, false, false, false, false, false, false, false, false, false, false, false, false, false, false, false, false, false, false, false, false, false, false, false, false, false, false, false, false, false, false, false, false, false, false, false, false, false, false, false, false, false, false, false, false, false, false, false] rfl rfl (any_of HT_.out (by kernel_rfl)) (fun _ _ _ h => h) (Or.inl ⟨by rfl, ?_⟩) ?_ ?_
                                          rotate_left
                                          · intro w'
                                            go_simp
                                            with_reducible rfl
                                          rotate_left
                                          · simp only [Act.put, List.setIfInBounds_toArray, List.set_cons_zero, List.set_cons_succ, i64_w, i32_w]
                                            rfl
                                          refine pure_ (i := 10) (N := some 66) (v := ?_) (a' := ?_) #[true, true, true, true, true, true, true, true, true, true, true, false, false, false, false, false, false, false, false, false, false, false, false, false, false, false, false, false, false, false, false, false, false, false, false, false, false, false, false, false, false, false, false, false, false, false, false, false, false, false, false, false, false, false, false, false, false, false, false, false, false, false, false, false, false, false, false, false, false, false, false, false, false, false, false, false, false, false, false, false, false, false, false, false, false, false, false, false, false, false, false, false, false, false, false, false] rfl rfl (any_of HT_.out (by kernel_rfl)) (fun _ _ _ h => h) (Or.inl ⟨by rfl, ?_⟩) ?_ ?_
                                          rotate_left
                                          · intro w'
                                            go_simp
                                            with_reducible rfl
                                          rotate_left
                                          · simp only [Act.put, List.setIfInBounds_toArray, List.set_cons_zero, List.set_cons_succ, i64_w, i32_w]
                                            rfl
                                          refine pure_ (i := 11) (N := some 67) (v := ?_) (a' := ?_) #[true, true, true, true, true, true, true, true, true, true, true, true, false, false, false, false, false, false, false, false, false, false, false, false, false, false, false, false, false, false, false, false, false, false, false, false, false, false, false, false, false, false, false, false, false, false, false, false, false, false, false, false, false, false, false, false, false, false, false, false, false, false, false, false, false, false, false, false, false, false, false, false, false, false, false, false, false, false, false, false, false, false, false, false, false, false, false, false, false, false, false, false, false, false, false, false] rfl rfl (any_of HT_.out (by kernel_rfl)) (fun _ _ _ h => h) (Or.inl ⟨by rfl, ?_⟩) ?_ ?_
                                          rotate_left
                                          · intro w'
                                            go_simp
                                            with_reducible rfl
                                          rotate_left
                                          · simp only [Act.put, List.setIfInBounds_toArray, List.set_cons_zero, List.set_cons_succ, i64_w, i32_w]
                                            rfl
                                          refine pure_ (i := 12) (N := some 68) (v := ?_) (a' := ?_) #[true, true, true, true, true, true, true, true, true, true, true, true, true, false, false, false, false, false, false, false, false, false, false, false, false, false, false, false, false, false, false, false, false, false, false, false, false, false, false, false, false, false, false, false, false, false, false, false, false, false, false, false, false, false, false, false, false, false, false, false, false, false, false, false, false, false, false, false, false, false, false, false, false, false, false, false, false, false, false, false, false, false, false, false, false, false, false, false, false, false, false, false, false, false, false, false] rfl rfl (any_of HT_.out (by kernel_rfl)) (fun _ _ _ h => h) (Or.inl ⟨by rfl, ?_⟩) ?_ ?_
                                          rotate_left
                                          · intro w'
                                            go_simp
                                            with_reducible rfl
                                          rotate_left
                                          · simp only [Act.put, List.setIfInBounds_toArray, List.set_cons_zero, List.set_cons_succ, i64_w, i32_w]
                                            rfl
                                          refine pure_ (i := 13) (N := some 69) (v := ?_) (a' := ?_) #[true, true, true, true, true, true, true, true, true, true, true, true, true, true, false, false, false, false, false, false, false, false, false, false, false, false, false, false, false, false, false, false, false, false, false, false, false, false, false, false, false, false, false, false, false, false, false, false, false, false, false, false, false, false, false, false, false, false, false, false, false, false, false, false, false, false, false, false, false, false, false, false, false, false, false, false, false, false, false, false, false, false, false, false, false, false, false, false, false, false, false, false, false, false, false, false] rfl rfl (any_of HT_.out (by kernel_rfl)) (fun _ _ _ h => h) (Or.inl ⟨by rfl, ?_⟩) ?_ ?_
                                          rotate_left
                                          · intro w'
                                            go_simp
                                            with_reducible rfl
                                          rotate_left
                                          · simp only [Act.put, List.setIfInBounds_toArray, List.set_cons_zero, List.set_cons_succ, i64_w, i32_w]
                                            rfl
                                          refine pure_ (i := 14) (N := some 70) (v := ?_) (a' := ?_) #[true, true, true, true, true, true, true, true, true, true, true, true, true, true, true, false, false, false, false, false, false, false, false, false, false, false, false, false, false, false, false, false, false, false, false, false, false, false, false, false, false, false, false, false, false, false, false, false, false, false, false, false, false, false, false, false, false, false, false, false, false, false, false, false, false, false, false, false, false, false, false, false, false, false, false, false, false, false, false, false, false, false, false, false, false, false, false, false, false, false, false, false, false, false, false, false] rfl rfl (any_of HT_.out (by kernel_rfl)) (fun _ _ _ h => h) (Or.inl ⟨by rfl, ?_⟩) ?_ ?_
                                          rotate_left
                                          · intro w'
                                            go_simp
                                            with_reducible rfl
                                          rotate_left
                                          · simp only [Act.put, List.setIfInBounds_toArray, List.set_cons_zero, List.set_cons_succ, i64_w, i32_w]
                                            rfl
                                          refine pure_ (i := 15) (N := some 71) (v := ?_) (a' := ?_) #[true, true, true, true, true, true, true, true, true, true, true, true, true, true, true, true, false, false, false, false, false, false, false, false, false, false, false, false, false, false, false, false, false, false, false, false, false, false, false, false, false, false, false, false, false, false, false, false, false, false, false, false, false, false, false, false, false, false, false, false, false, false, false, false, false, false, false, false, false, false, false, false, false, false, false, false, false, false, false, false, false, false, false, false, false, false, false, false, false, false, false, false, false, false, false, false] rfl rfl (any_of HT_.out (by kernel_rfl)) (fun _ _ _ h => h) (Or.inl ⟨by rfl, ?_⟩) ?_ ?_
                                          rotate_left
                                          · intro w'
                                            go_simp
                                            with_reducible rfl
                                          rotate_left
                                          · simp only [Act.put, List.setIfInBounds_toArray, List.set_cons_zero, List.set_cons_succ, i64_w, i32_w]
                                            rfl
                                          refine pure_ (i := 16) (N := some 72) (v := ?_) (a' := ?_) #[true, true, true, true, true, true, true, true, true, true, true, true, true, true, true, true, true, false, false, false, false, false, false, false, false, false, false, false, false, false, false, false, false, false, false, false, false, false, false, false, false, false, false, false, false, false, false, false, false, false, false, false, false, false, false, false, false, false, false, false, false, false, false, false, false, false, false, false, false, false, false, false, false, false, false, false, false, false, false, false, false, false, false, false, false, false, false, false, false, false, false, false, false, false, false, false] rfl rfl (any_of HT_.out (by kernel_rfl)) (fun _ _ _ h => h) (Or.inl ⟨by rfl, ?_⟩) ?_ ?_
                                          rotate_left
                                          · intro w'
                                            go_simp
                                            with_reducible rfl
                                          rotate_left
                                          · simp only [Act.put, List.setIfInBounds_toArray, List.set_cons_zero, List.set_cons_succ, i64_w, i32_w]
                                            rfl
                                          refine pure_ (i := 17) (N := some 73) (v := ?_) (a' := ?_) #[true, true, true, true, true, true, true, true, true, true, true, true, true, true, true, true, true, true, false, false, false, false, false, false, false, false, false, false, false, false, false, false, false, false, false, false, false, false, false, false, false, false, false, false, false, false, false, false, false, false, false, false, false, false, false, false, false, false, false, false, false, false, false, false, false, false, false, false, false, false, false, false, false, false, false, false, false, false, false, false, false, false, false, false, false, false, false, false, false, false, false, false, false, false, false, false] rfl rfl (any_of HT_.out (by kernel_rfl)) (fun _ _ _ h => h) (Or.inl ⟨by rfl, ?_⟩) ?_ ?_
                                          rotate_left
                                          · intro w'
                                            go_simp
                                            with_reducible rfl
                                          rotate_left
                                          · simp only [Act.put, List.setIfInBounds_toArray, List.set_cons_zero, List.set_cons_succ, i64_w, i32_w]
                                            rfl
                                          refine pure_ (i := 18) (N := some 74) (v := ?_) (a' := ?_) #[true, true, true, true, true, true, true, true, true, true, true, true, true, true, true, true, true, true, true, false, false, false, false, false, false, false, false, false, false, false, false, false, false, false, false, false, false, false, false, false, false, false, false, false, false, false, false, false, false, false, false, false, false, false, false, false, false, false, false, false, false, false, false, false, false, false, false, false, false, false, false, false, false, false, false, false, false, false, false, false, false, false, false, false, false, false, false, false, false, false, false, false, false, false, false, false] rfl rfl (any_of HT_.out (by kernel_rfl)) (fun _ _ _ h => h) (Or.inl ⟨by rfl, ?_⟩) ?_ ?_
                                          rotate_left
                                          · intro w'
                                            go_simp
                                            with_reducible rfl
                                          rotate_left
                                          · simp only [Act.put, List.setIfInBounds_toArray, List.set_cons_zero, List.set_cons_succ, i64_w, i32_w]
                                            rfl
                                          refine pure_ (i := 19) (N := some 75) (v := ?_) (a' := ?_) #[true, true, true, true, true, true, true, true, true, true, true, true, true, true, true, true, true, true, true, true, false, false, false, false, false, false, false, false, false, false, false, false, false, false, false, false, false, false, false, false, false, false, false, false, false, false, false, false, false, false, false, false, false, false, false, false, false, false, false, false, false, false, false, false, false, false, false, false, false, false, false, false, false, false, false, false, false, false, false, false, false, false, false, false, false, false, false, false, false, false, false, false, false, false, false, false] rfl rfl (any_of HT_.out (by kernel_rfl)) (fun _ _ _ h => h) (Or.inl ⟨by rfl, ?_⟩) ?_ ?_
                                          rotate_left
                                          · intro w'
                                            go_simp
                                            with_reducible rfl
                                          rotate_left
                                          · simp only [Act.put, List.setIfInBounds_toArray, List.set_cons_zero, List.set_cons_succ, i64_w, i32_w]
                                            rfl
                                          refine pure_ (i := 20) (N := some 76) (v := ?_) (a' := ?_) #[true, true, true, true, true, true, true, true, true, true, true, true, true, true, true, true, true, true, true, true, true, false, false, false, false, false, false, false, false, false, false, false, false, false, false, false, false, false, false, false, false, false, false, false, false, false, false, false, false, false, false, false, false, false, false, false, false, false, false, false, false, false, false, false, false, false, false, false, false, false, false, false, false, false, false, false, false, false, false, false, false, false, false, false, false, false, false, false, false, false, false, false, false, false, false, false] rfl rfl (any_of HT_.out (by kernel_rfl)) (fun _ _ _ h => h) (Or.inl ⟨by rfl, ?_⟩) ?_ ?_
                                          rotate_left
                                          · intro w'
                                            go_simp
                                            with_reducible rfl
                                          rotate_left
                                          · simp only [Act.put, List.setIfInBounds_toArray, List.set_cons_zero, List.set_cons_succ, i64_w, i32_w]
                                            rfl
                                          refine pure_ (i := 21) (N := some 77) (v := ?_) (a' := ?_) #[true, true, true, true, true, true, true, true, true, true, true, true, true, true, true, true, true, true, true, true, true, true, false, false, false, false, false, false, false, false, false, false, false, false, false, false, false, false, false, false, false, false, false, false, false, false, false, false, false, false, false, false, false, false, false, false, false, false, false, false, false, false, false, false, false, false, false, false, false, false, false, false, false, false, false, false, false, false, false, false, false, false, false, false, false, false, false, false, false, false, false, false, false, false, false, false] rfl rfl (any_of HT_.out (by kernel_rfl)) (fun _ _ _ h => h) (Or.inl ⟨by rfl, ?_⟩) ?_ ?_
                                          rotate_left
                                          · intro w'
                                            go_simp
                                            with_reducible rfl
                                          rotate_left
                                          · simp only [Act.put, List.setIfInBounds_toArray, List.set_cons_zero, List.set_cons_succ, i64_w, i32_w]
                                            rfl
                                          refine pure_ (i := 22) (N := some 78) (v := ?_) (a' := ?_) #[true, true, true, true, true, true, true, true, true, true, true, true, true, true, true, true, true, true, true, true, true, true, true, false, false, false, false, false, false, false, false, false, false, false, false, false, false, false, false, false, false, false, false, false, false, false, false, false, false, false, false, false, false, false, false, false, false, false, false, false, false, false, false, false, false, false, false, false, false, false, false, false, false, false, false, false, false, false, false, false, false, false, false, false, false, false, false, false, false, false, false, false, false, false, false, false] rfl rfl (any_of HT_.out (by kernel_rfl)) (fun _ _ _ h => h) (Or.inl ⟨by rfl, ?_⟩) ?_ ?_
                                          rotate_left
                                          · intro w'
                                            go_simp
                                            with_reducible rfl
                                          rotate_left
                                          · simp only [Act.put, List.setIfInBounds_toArray, List.set_cons_zero, List.set_cons_succ, i64_w, i32_w]
                                            rfl
                                          refine pure_ (i := 23) (N := some 79) (v := ?_) (a' := ?_) #[true, true, true, true, true, true, true, true, true, true, true, true, true, true, true, true, true, true, true, true, true, true, true, true, false, false, false, false, false, false, false, false, false, false, false, false, false, false, false, false, false, false, false, false, false, false, false, false, false, false, false, false, false, false, false, false, false, false, false, false, false, false, false, false, false, false, false, false, false, false, false, false, false, false, false, false, false, false, false, false, false, false, false, false, false, false, false, false, false, false, false, false, false, false, false, false] rfl rfl (any_of HT_.out (by kernel_rfl)) (fun _ _ _ h => h) (Or.inl ⟨by rfl, ?_⟩) ?_ ?_
                                          rotate_left
                                          · intro w'
                                            go_simp
                                            with_reducible rfl
                                          rotate_left
                                          · simp only [Act.put, List.setIfInBounds_toArray, List.set_cons_zero, List.set_cons_succ, i64_w, i32_w]
                                            rfl
                                          refine pure_ (i := 24) (N := some 80) (v := ?_) (a' := ?_) #[true, true, true, true, true, true, true, true, true, true, true, true, true, true, true, true, true, true, true, true, true, true, true, true, true, false, false, false, false, false, false, false, false, false, false, false, false, false, false, false, false, false, false, false, false, false, false, false, false, false, false, false, false, false, false, false, false, false, false, false, false, false, false, false, false, false, false, false, false, false, false, false, false, false, false, false, false, false, false, false, false, false, false, false, false, false, false, false, false, false, false, false, false, false, false, false] rfl rfl (any_of HT_.out (by kernel_rfl)) (fun _ _ _ h => h) (Or.inl ⟨by rfl, ?_⟩) ?_ ?_
                                          rotate_left
                                          · intro w'
                                            go_simp
                                            with_reducible rfl
                                          rotate_left
                                          · simp only [Act.put, List.setIfInBounds_toArray, List.set_cons_zero, List.set_cons_succ, i64_w, i32_w]
                                            rfl
                                          refine pure_ (i := 25) (N := some 81) (v := ?_) (a' := ?_) #[true, true, true, true, true, true, true, true, true, true, true, true, true, true, true, true, true, true, true, true, true, true, true, true, true, true, false, false, false, false, false, false, false, false, false, false, false, false, false, false, false, false, false, false, false, false, false, false, false, false, false, false, false, false, false, false, false, false, false, false, false, false, false, false, false, false, false, false, false, false, false, false, false, false, false, false, false, false, false, false, false, false, false, false, false, false, false, false, false, false, false, false, false, false, false, false] rfl rfl (any_of HT_.out (by kernel_rfl)) (fun _ _ _ h => h) (Or.inl ⟨by rfl, ?_⟩) ?_ ?_
                                          rotate_left
                                          · intro w'
                                            go_simp
                                            with_reducible rfl
                                          rotate_left
                                          · simp only [Act.put, List.setIfInBounds_toArray, List.set_cons_zero, List.set_cons_succ, i64_w, i32_w]
                                            rfl
                                          refine pure_ (i := 26) (N := some 82) (v := ?_) (a' := ?_) #[true, true, true, true, true, true, true, true, true, true, true, true, true, true, true, true, true, true, true, true, true, true, true, true, true, true, true, false, false, false, false, false, false, false, false, false, false, false, false, false, false, false, false, false, false, false, false, false, false, false, false, false, false, false, false, false, false, false, false, false, false, false, false, false, false, false, false, false, false, false, false, false, false, false, false, false, false, false, false, false, false, false, false, false, false, false, false, false, false, false, false, false, false, false, false, false] rfl rfl (any_of HT_.out (by kernel_rfl)) (fun _ _ _ h => h) (Or.inl ⟨by rfl, ?_⟩) ?_ ?_
                                          rotate_left
                                          · intro w'
                                            go_simp
                                            with_reducible rfl
                                          rotate_left
                                          · simp only [Act.put, List.setIfInBounds_toArray, List.set_cons_zero, List.set_cons_succ, i64_w, i32_w]
                                            rfl
                                          refine one_ (i := 27) (N := some 83) #[true, true, true, true, true, true, true, true, true, true, true, true, true, true, true, true, true, true, true, true, true, true, true, true, true, true, true, true, false, false, false, false, false, false, false, false, false, false, false, false, false, false, false, false, false, false, false, false, false, false, false, false, false, false, false, false, false, false, false, false, false, false, false, false, false, false, false, false, false, false, false, false, false, false, false, false, false, false, false, false, false, false, false, false, false, false, false, false, false, false, false, false, false, false, false, false] rfl rfl (one_of HT_.out (by kernel_rfl)) (by decide) (fun K hK => ?_)
                                          refine Kd.R_lit_step k55 _ 55 ?hg (N := 83) ?hd (xs := ([(⟨0, 5⟩ : S55), (⟨3, 1⟩ : S55)] : List (S55))) (inner := [.int .i64 0, .int .i64 5, .int .i64 3, .int .i64 1]) (ok := fun _ => True) (okp := fun _ => True) ?hr ?hp (fun _ hk => hk) trivial (Below.refl _ _) (Nat.le_refl _) (by simp) ?_; (case hd => rfl); (case hg => rfl); (case hr => first | (go_simp; done) | (go_simp; rfl)); (case hp => exact (Reps.c2 (show Kd.M k55 _ _ _ (⟨0, 5⟩ : S55) [.int .i64 0, .int .i64 5] from (k55_mkM _ _ _ (⟨0, 5⟩ : S55) )) (Reps.c2 (show Kd.M k55 _ _ _ (⟨3, 1⟩ : S55) [.int .i64 3, .int .i64 1] from (k55_mkM _ _ _ (⟨3, 1⟩ : S55) )) (Reps.none _ _))))
                                          intro v196 w61 ho62 hb hg_ hnew_
                                          clear hg_ hnew_
                                          (first | rw [← Ny195.out] at ho62 | (simp only [Int.reduceToNat] at ho62; rw [← Ny195.out] at ho62))
                                          have n0_ := Aside0.mk (Kd.R_elder' (by (with_reducible repeat (first | apply Kd.R_alloc | apply Kd.R_drewN | apply Kd.R_drew)); exact HO184.out) (Kd.R_base ho62) hb)
                                          have n1_ := Aside0.mk (Kd.R_elder' (by (with_reducible repeat (first | apply Kd.R_alloc | apply Kd.R_drewN | apply Kd.R_drew)); exact HO189.out) (Kd.R_base ho62) hb)
                                          have n2_ := Aside0.mk (Kd.R_elder' (by (with_reducible repeat (first | apply Kd.R_alloc | apply Kd.R_drewN | apply Kd.R_drew)); exact HO194.out) (Kd.R_base ho62) hb)
                                          have n3_ := Aside0.mk (Kd.R_lower (Kd.R_new' (Kd.R_new' (Kd.R_new' ho62 (Kd.R_lt (by (with_reducible repeat (first | apply Kd.R_alloc | apply Kd.R_drewN | apply Kd.R_drew)); exact HO184.out))) (Kd.R_lt (by (with_reducible repeat (first | apply Kd.R_alloc | apply Kd.R_drewN | apply Kd.R_drew)); exact HO189.out))) (Kd.R_lt (by (with_reducible repeat (first | apply Kd.R_alloc | apply Kd.R_drewN | apply Kd.R_drew)); exact HO194.out))) (below_size (by repeat (first | (with_reducible first | exact HB.out | apply below_alloc | apply pw_below_drewN | apply below_drew1 | refine below_set ?_ GE154.out | refine below_set ?_ GE163.out | refine below_set ?_ GE171.out | refine below_set ?_ GE179.out) | exact HB.out))))
                                          have n4_ := Aside0.mk (blk_below (g := gb154) (o := .cells #[.int .i64 1, .int .i64 2, .string (⟨#[97]⟩ : ByteArray), .string (⟨#[120]⟩ : ByteArray), .int .i64 3] 23 (0, 0)) (by (with_reducible repeat (first | refine blk_drewN ?_ _ | refine blk_drew ?_ | refine blk_alloc ?_ _)); exact BK154.out) hb)
                                          have n5_ := Aside0.mk (blk_below (g := gb163) (o := .cells #[.int .i64 t156, .int .i64 t157, .string t158, .string t159, .int .i64 t160] 23 (0, 0)) (by (with_reducible repeat (first | refine blk_drewN ?_ _ | refine blk_drew ?_ | refine blk_alloc ?_ _)); exact BK163.out) hb)
                                          have n6_ := Aside0.mk (blk_below (g := gb171) (o := .cells #[.int .i64 t164, .int .i64 t165, .string t166, .string t167, .int .i64 t168] 23 (0, 0)) (by (with_reducible repeat (first | refine blk_drewN ?_ _ | refine blk_drew ?_ | refine blk_alloc ?_ _)); exact BK171.out) hb)
                                          have n7_ := Aside0.mk (blk_below (g := gb179) (o := .cells #[.int .i64 t172, .int .i64 t173, .string t174, .string t175, .int .i64 t176] 23 (0, 0)) (by (with_reducible repeat (first | refine blk_drewN ?_ _ | refine blk_drew ?_ | refine blk_alloc ?_ _)); exact BK179.out) hb)
                                          have n8_ := Aside0.mk (below_step (by repeat (first | (with_reducible first | exact HB.out | apply below_alloc | apply pw_below_drewN | apply below_drew1 | refine below_set ?_ GE154.out | refine below_set ?_ GE163.out | refine below_set ?_ GE171.out | refine below_set ?_ GE179.out) | exact HB.out)) hb)
                                          clear HO184
                                          clear HO189
                                          clear HO194
                                          clear BK154
                                          clear BK163
                                          clear BK171
                                          clear BK179
                                          clear HB
                                          have HO184 := n0_
                                          have HO189 := n1_
                                          have HO194 := n2_
                                          have HO197 := n3_
                                          have BK154 := n4_
                                          have BK163 := n5_
                                          have BK171 := n6_
                                          have BK179 := n7_
                                          have HB := n8_
                                          clear n0_ n1_ n2_ n3_ n4_ n5_ n6_ n7_ n8_
                                          clear hb ho62
                                          obtain ⟨Ao63, co63, eo63⟩ := Kd.R_slice HO184.out
                                          (first | subst eo63 | (injection eo63 with f1_ f2_ f3_; have f4_ := f1_.symm; have f5_ := f3_.symm; clear f1_ f2_ f3_; subst f4_; subst f5_))
                                          obtain ⟨Ao64, co64, eo64⟩ := Kd.R_slice HO197.out
                                          (first | subst eo64 | (injection eo64 with f1_ f2_ f3_; have f4_ := f1_.symm; have f5_ := f3_.symm; clear f1_ f2_ f3_; subst f4_; subst f5_))
                                          refine hK.out _ _ ⟨(blk_cell BK163.out 0).trans rfl, (blk_cell BK163.out 1).trans rfl, (blk_cell BK163.out 2).trans rfl, (blk_cell BK163.out 3).trans rfl, (blk_cell BK163.out 4).trans rfl, (blk_cell BK154.out 0).trans rfl, (blk_cell BK154.out 1).trans rfl, (blk_cell BK154.out 2).trans rfl, (blk_cell BK154.out 3).trans rfl, (blk_cell BK154.out 4).trans rfl⟩ (fun hHeld => ?_)
                                          clear hK K
                                          refine norm_ (a' := ?_) ?_ ?_
                                          rotate_left
                                          · show Act.put _ (some 83) _ = _
                                            simp only [Act.put, List.setIfInBounds_toArray, List.set_cons_zero, List.set_cons_succ, i64_w, i32_w]
                                            rfl
                                          refine one_ (i := 28) (N := some 84) #[true, true, true, true, true, true, true, true, true, true, true, true, true, true, true, true, true, true, true, true, true, true, true, true, true, true, true, true, true, false, false, false, false, false, false, false, false, false, false, false, false, false, false, false, false, false, false, false, false, false, false, false, false, false, false, false, false, false, false, false, false, false, false, false, false, false, false, false, false, false, false, false, false, false, false, false, false, false, false, false, false, false, false, false, false, false, false, false, false, false, false, false, false, false, false, false] rfl rfl (one_of HT_.out (by kernel_rfl)) (by decide) (fun K hK => ?_)
                                          refine goes_ Tryd.func26 (by kernel_rfl) rfl #[.slice Ao63 t180.length co63, .slice Ao64 y195.length co64] (by rfl) rfl rfl (by (try simp only [List.map_toArray, List.map_cons, List.map_nil]); first | done | rfl | (simp only [List.length_drop, List.length_take]; rfl)) ?_
                                          with_reducible refine (rivuletref06_Equal.calls k _ _ t180 _ _ y195 true _ ?side1 ?side2 ?side3 ?side4 A15.out).mono ?_
                                          (case side1 => repeat (first | exact (Kd.R_reads' HO184.out).2.2 | (with_reducible refine Kd.C_alloc ?_ _) | (with_reducible refine Kd.C_drewN ?_ _) | (with_reducible refine Kd.C_drew ?_)))
                                          (case side2 => exact (Kd.R_reads' HO184.out).2.1)
                                          (case side3 => repeat (first | exact (Kd.R_reads' HO197.out).2.2 | (with_reducible refine Kd.C_alloc ?_ _) | (with_reducible refine Kd.C_drewN ?_ _) | (with_reducible refine Kd.C_drew ?_)))
                                          (case side4 => exact (Kd.R_reads' HO197.out).2.1)
                                          rintro e w' ⟨rfl, ⟨nd, rfl⟩⟩
                                          refine ⟨_, rfl, ?_⟩
                                          refine hK.out _ _ ⟨(blk_cell BK163.out 0).trans rfl, (blk_cell BK163.out 1).trans rfl, (blk_cell BK163.out 2).trans rfl, (blk_cell BK163.out 3).trans rfl, (blk_cell BK163.out 4).trans rfl, (blk_cell BK154.out 0).trans rfl, (blk_cell BK154.out 1).trans rfl, (blk_cell BK154.out 2).trans rfl, (blk_cell BK154.out 3).trans rfl, (blk_cell BK154.out 4).trans rfl⟩ (fun hHeld => ?_)
                                          clear hK K
                                          refine norm_ (a' := ?_) ?_ ?_
                                          rotate_left
                                          · show Act.put _ (some 84) _ = _
                                            simp only [Act.put, List.setIfInBounds_toArray, List.set_cons_zero, List.set_cons_succ, i64_w, i32_w]
                                            rfl
                                          refine pure_ (i := 29) (N := some 85) (v := ?_) (a' := ?_) #[true, true, true, true, true, true, true, true, true, true, true, true, true, true, true, true, true, true, true, true, true, true, true, true, true, true, true, true, true, true, false, false, false, false, false, false, false, false, false, false, false, false, false, false, false, false, false, false, false, false, false, false, false, false, false, false, false, false, false, false, false, false, false, false, false, false, false, false, false, false, false, false, false, false, false, false, false, false, false, false, false, false, false, false, false, false, false, false, false, false, false, false, false, false, false, false] rfl rfl (any_of HT_.out (by kernel_rfl)) (fun _ _ _ h => h) (Or.inl ⟨by rfl, ?_⟩) ?_ ?_
                                          rotate_left
                                          · intro w'
                                            go_simp
                                            with_reducible rfl
                                          rotate_left
                                          · simp only [Act.put, List.setIfInBounds_toArray, List.set_cons_zero, List.set_cons_succ, i64_w, i32_w]
                                            rfl
                                          refine pure_ (i := 30) (N := some 86) (v := ?_) (a' := ?_) #[true, true, true, true, true, true, true, true, true, true, true, true, true, true, true, true, true, true, true, true, true, true, true, true, true, true, true, true, true, true, true, false, false, false, false, false, false, false, false, false, false, false, false, false, false, false, false, false, false, false, false, false, false, false, false, false, false, false, false, false, false, false, false, false, false, false, false, false, false, false, false, false, false, false, false, false, false, false, false, false, false, false, false, false, false, false, false, false, false, false, false, false, false, false, false, false] rfl rfl (any_of HT_.out (by kernel_rfl)) (fun _ _ _ h => h) (Or.inl ⟨by rfl, ?_⟩) ?_ ?_
                                          rotate_left
                                          · intro w'
                                            go_simp
                                            with_reducible rfl
                                          rotate_left
                                          · simp only [Act.put, List.setIfInBounds_toArray, List.set_cons_zero, List.set_cons_succ, i64_w, i32_w]
                                            rfl
                                          refine pure_ (i := 31) (N := some 87) (v := ?_) (a' := ?_) #[true, true, true, true, true, true, true, true, true, true, true, true, true, true, true, true, true, true, true, true, true, true, true, true, true, true, true, true, true, true, true, true, false, false, false, false, false, false, false, false, false, false, false, false, false, false, false, false, false, false, false, false, false, false, false, false, false, false, false, false, false, false, false, false, false, false, false, false, false, false, false, false, false, false, false, false, false, false, false, false, false, false, false, false, false, false, false, false, false, false, false, false, false, false, false, false] rfl rfl (any_of HT_.out (by kernel_rfl)) (fun _ _ _ h => h) (Or.inl ⟨by rfl, ?_⟩) ?_ ?_
                                          rotate_left
                                          · intro w'
                                            go_simp
                                            with_reducible rfl
                                          rotate_left
                                          · simp only [Act.put, List.setIfInBounds_toArray, List.set_cons_zero, List.set_cons_succ, i64_w, i32_w]
                                            rfl
                                          refine pure_ (i := 32) (N := some 88) (v := ?_) (a' := ?_) #[true, true, true, true, true, true, true, true, true, true, true, true, true, true, true, true, true, true, true, true, true, true, true, true, true, true, true, true, true, true, true, true, true, false, false, false, false, false, false, false, false, false, false, false, false, false, false, false, false, false, false, false, false, false, false, false, false, false, false, false, false, false, false, false, false, false, false, false, false, false, false, false, false, false, false, false, false, false, false, false, false, false, false, false, false, false, false, false, false, false, false, false, false, false, false, false] rfl rfl (any_of HT_.out (by kernel_rfl)) (fun _ _ _ h => h) (Or.inl ⟨by rfl, ?_⟩) ?_ ?_
                                          rotate_left
                                          · intro w'
                                            go_simp
                                            with_reducible rfl
                                          rotate_left
                                          · simp only [Act.put, List.setIfInBounds_toArray, List.set_cons_zero, List.set_cons_succ, i64_w, i32_w]
                                            rfl
                                          refine pure_ (i := 33) (N := some 89) (v := ?_) (a' := ?_) #[true, true, true, true, true, true, true, true, true, true, true, true, true, true, true, true, true, true, true, true, true, true, true, true, true, true, true, true, true, true, true, true, true, true, false, false, false, false, false, false, false, false, false, false, false, false, false, false, false, false, false, false, false, false, false, false, false, false, false, false, false, false, false, false, false, false, false, false, false, false, false, false, false, false, false, false, false, false, false, false, false, false, false, false, false, false, false, false, false, false, false, false, false, false, false, false] rfl rfl (any_of HT_.out (by kernel_rfl)) (fun _ _ _ h => h) (Or.inl ⟨by rfl, ?_⟩) ?_ ?_
                                          rotate_left
                                          · intro w'
                                            go_simp
                                            with_reducible rfl
                                          rotate_left
                                          · simp only [Act.put, List.setIfInBounds_toArray, List.set_cons_zero, List.set_cons_succ, i64_w, i32_w]
                                            rfl
                                          refine pure_ (i := 34) (N := some 90) (v := ?_) (a' := ?_) #[true, true, true, true, true, true, true, true, true, true, true, true, true, true, true, true, true, true, true, true, true, true, true, true, true, true, true, true, true, true, true, true, true, true, true, false, false, false, false, false, false, false, false, false, false, false, false, false, false, false, false, false, false, false, false, false, false, false, false, false, false, false, false, false, false, false, false, false, false, false, false, false, false, false, false, false, false, false, false, false, false, false, false, false, false, false, false, false, false, false, false, false, false, false, false, false] rfl rfl (any_of HT_.out (by kernel_rfl)) (fun _ _ _ h => h) (Or.inl ⟨by rfl, ?_⟩) ?_ ?_
                                          rotate_left
                                          · intro w'
                                            go_simp
                                            with_reducible rfl
                                          rotate_left
                                          · simp only [Act.put, List.setIfInBounds_toArray, List.set_cons_zero, List.set_cons_succ, i64_w, i32_w]
                                            rfl
                                          refine pure_ (i := 35) (N := some 91) (v := ?_) (a' := ?_) #[true, true, true, true, true, true, true, true, true, true, true, true, true, true, true, true, true, true, true, true, true, true, true, true, true, true, true, true, true, true, true, true, true, true, true, true, false, false, false, false, false, false, false, false, false, false, false, false, false, false, false, false, false, false, false, false, false, false, false, false, false, false, false, false, false, false, false, false, false, false, false, false, false, false, false, false, false, false, false, false, false, false, false, false, false, false, false, false, false, false, false, false, false, false, false, false] rfl rfl (any_of HT_.out (by kernel_rfl)) (fun _ _ _ h => h) (Or.inl ⟨by rfl, ?_⟩) ?_ ?_
                                          rotate_left
                                          · intro w'
                                            go_simp
                                            with_reducible rfl
                                          rotate_left
                                          · simp only [Act.put, List.setIfInBounds_toArray, List.set_cons_zero, List.set_cons_succ, i64_w, i32_w]
                                            rfl
                                          refine pure_ (i := 36) (N := some 92) (v := ?_) (a' := ?_) #[true, true, true, true, true, true, true, true, true, true, true, true, true, true, true, true, true, true, true, true, true, true, true, true, true, true, true, true, true, true, true, true, true, true, true, true, true, false, false, false, false, false, false, false, false, false, false, false, false, false, false, false, false, false, false, false, false, false, false, false, false, false, false, false, false, false, false, false, false, false, false, false, false, false, false, false, false, false, false, false, false, false, false, false, false, false, false, false, false, false, false, false, false, false, false, false] rfl rfl (any_of HT_.out (by kernel_rfl)) (fun _ _ _ h => h) (Or.inl ⟨by rfl, ?_⟩) ?_ ?_
                                          rotate_left
                                          · intro w'
                                            go_simp
                                            with_reducible rfl
                                          rotate_left
                                          · simp only [Act.put, List.setIfInBounds_toArray, List.set_cons_zero, List.set_cons_succ, i64_w, i32_w]
                                            rfl
                                          refine pure_ (i := 37) (N := some 93) (v := ?_) (a' := ?_) #[true, true, true, true, true, true, true, true, true, true, true, true, true, true, true, true, true, true, true, true, true, true, true, true, true, true, true, true, true, true, true, true, true, true, true, true, true, true, false, false, false, false, false, false, false, false, false, false, false, false, false, false, false, false, false, false, false, false, false, false, false, false, false, false, false, false, false, false, false, false, false, false, false, false, false, false, false, false, false, false, false, false, false, false, false, false, false, false, false, false, false, false, false, false, false, false] rfl rfl (any_of HT_.out (by kernel_rfl)) (fun _ _ _ h => h) (Or.inl ⟨by rfl, ?_⟩) ?_ ?_
                                          rotate_left
                                          · intro w'
                                            go_simp
                                            with_reducible rfl
                                          rotate_left
                                          · simp only [Act.put, List.setIfInBounds_toArray, List.set_cons_zero, List.set_cons_succ, i64_w, i32_w]
                                            rfl
                                          refine pure_ (i := 38) (N := some 94) (v := ?_) (a' := ?_) #[true, true, true, true, true, true, true, true, true, true, true, true, true, true, true, true, true, true, true, true, true, true, true, true, true, true, true, true, true, true, true, true, true, true, true, true, true, true, true, false, false, false, false, false, false, false, false, false, false, false, false, false, false, false, false, false, false, false, false, false, false, false, false, false, false, false, false, false, false, false, false, false, false, false, false, false, false, false, false, false, false, false, false, false, false, false, false, false, false, false, false, false, false, false, false, false] rfl rfl (any_of HT_.out (by kernel_rfl)) (fun _ _ _ h => h) (Or.inl ⟨by rfl, ?_⟩) ?_ ?_
                                          rotate_left
                                          · intro w'
                                            go_simp
                                            with_reducible rfl
                                          rotate_left
                                          · simp only [Act.put, List.setIfInBounds_toArray, List.set_cons_zero, List.set_cons_succ, i64_w, i32_w]
                                            rfl
                                          refine pure_ (i := 39) (N := some 95) (v := ?_) (a' := ?_) #[true, true, true, true, true, true, true, true, true, true, true, true, true, true, true, true, true, true, true, true, true, true, true, true, true, true, true, true, true, true, true, true, true, true, true, true, true, true, true, true, false, false, false, false, false, false, false, false, false, false, false, false, false, false, false, false, false, false, false, false, false, false, false, false, false, false, false, false, false, false, false, false, false, false, false, false, false, false, false, false, false, false, false, false, false, false, false, false, false, false, false, false, false, false, false, false] rfl rfl (any_of HT_.out (by kernel_rfl)) (fun _ _ _ h => h) (Or.inl ⟨by rfl, ?_⟩) ?_ ?_
                                          rotate_left
                                          · intro w'
                                            go_simp
                                            with_reducible rfl
                                          rotate_left
                                          · simp only [Act.put, List.setIfInBounds_toArray, List.set_cons_zero, List.set_cons_succ, i64_w, i32_w]
                                            rfl
                                          refine pure_ (i := 40) (N := some 96) (v := ?_) (a' := ?_) #[true, true, true, true, true, true, true, true, true, true, true, true, true, true, true, true, true, true, true, true, true, true, true, true, true, true, true, true, true, true, true, true, true, true, true, true, true, true, true, true, true, false, false, false, false, false, false, false, false, false, false, false, false, false, false, false, false, false, false, false, false, false, false, false, false, false, false, false, false, false, false, false, false, false, false, false, false, false, false, false, false, false, false, false, false, false, false, false, false, false, false, false, false, false, false, false] rfl rfl (any_of HT_.out (by kernel_rfl)) (fun _ _ _ h => h) (Or.inl ⟨by rfl, ?_⟩) ?_ ?_
                                          rotate_left
                                          · intro w'
                                            go_simp
                                            with_reducible rfl
                                          rotate_left
                                          · simp only [Act.put, List.setIfInBounds_toArray, List.set_cons_zero, List.set_cons_succ, i64_w, i32_w]
                                            rfl
                                          refine pure_ (i := 41) (N := some 97) (v := ?_) (a' := ?_) #[true, true, true, true, true, true, true, true, true, true, true, true, true, true, true, true, true, true, true, true, true, true, true, true, true, true, true, true, true, true, true, true, true, true, true, true, true, true, true, true, true, true, false, false, false, false, false, false, false, false, false, false, false, false, false, false, false, false, false, false, false, false, false, false, false, false, false, false, false, false, false, false, false, false, false, false, false, false, false, false, false, false, false, false, false, false, false, false, false, false, false, false, false, false, false, false] rfl rfl (any_of HT_.out (by kernel_rfl)) (fun _ _ _ h => h) (Or.inl ⟨by rfl, ?_⟩) ?_ ?_
                                          rotate_left
                                          · intro w'
                                            go_simp
                                            with_reducible rfl
                                          rotate_left
                                          · simp only [Act.put, List.setIfInBounds_toArray, List.set_cons_zero, List.set_cons_succ, i64_w, i32_w]
                                            rfl
                                          refine pure_ (i := 42) (N := some 98) (v := ?_) (a' := ?_) #[true, true, true, true, true, true, true, true, true, true, true, true, true, true, true, true, true, true, true, true, true, true, true, true, true, true, true, true, true, true, true, true, true, true, true, true, true, true, true, true, true, true, true, false, false, false, false, false, false, false, false, false, false, false, false, false, false, false, false, false, false, false, false, false, false, false, false, false, false, false, false, false, false, false, false, false, false, false, false, false, false, false, false, false, false, false, false, false, false, false, false, false, false, false, false, false] rfl rfl (any_of HT_.out (by kernel_rfl)) (fun _ _ _ h => h) (Or.inl ⟨by rfl, ?_⟩) ?_ ?_
                                          rotate_left
                                          · intro w'
                                            go_simp
                                            with_reducible rfl
                                          rotate_left
                                          · simp only [Act.put, List.setIfInBounds_toArray, List.set_cons_zero, List.set_cons_succ, i64_w, i32_w]
                                            rfl
                                          refine pure_ (i := 43) (N := some 99) (v := ?_) (a' := ?_) #[true, true, true, true, true, true, true, true, true, true, true, true, true, true, true, true, true, true, true, true, true, true, true, true, true, true, true, true, true, true, true, true, true, true, true, true, true, true, true, true, true, true, true, true, false, false, false, false, false, false, false, false, false, false, false, false, false, false, false, false, false, false, false, false, false, false, false, false, false, false, false, false, false, false, false, false, false, false, false, false, false, false, false, false, false, false, false, false, false, false, false, false, false, false, false, false] rfl rfl (any_of HT_.out (by kernel_rfl)) (fun _ _ _ h => h) (Or.inl ⟨by rfl, ?_⟩) ?_ ?_
                                          rotate_left
                                          · intro w'
                                            go_simp
                                            with_reducible rfl
                                          rotate_left
                                          · simp only [Act.put, List.setIfInBounds_toArray, List.set_cons_zero, List.set_cons_succ, i64_w, i32_w]
                                            rfl
                                          refine pure_ (i := 44) (N := some 100) (v := ?_) (a' := ?_) #[true, true, true, true, true, true, true, true, true, true, true, true, true, true, true, true, true, true, true, true, true, true, true, true, true, true, true, true, true, true, true, true, true, true, true, true, true, true, true, true, true, true, true, true, true, false, false, false, false, false, false, false, false, false, false, false, false, false, false, false, false, false, false, false, false, false, false, false, false, false, false, false, false, false, false, false, false, false, false, false, false, false, false, false, false, false, false, false, false, false, false, false, false, false, false, false] rfl rfl (any_of HT_.out (by kernel_rfl)) (fun _ _ _ h => h) (Or.inl ⟨by rfl, ?_⟩) ?_ ?_
                                          rotate_left
                                          · intro w'
                                            go_simp
                                            with_reducible rfl
                                          rotate_left
                                          · simp only [Act.put, List.setIfInBounds_toArray, List.set_cons_zero, List.set_cons_succ, i64_w, i32_w]
                                            rfl
                                          refine pure_ (i := 45) (N := some 101) (v := ?_) (a' := ?_) #[true, true, true, true, true, true, true, true, true, true, true, true, true, true, true, true, true, true, true, true, true, true, true, true, true, true, true, true, true, true, true, true, true, true, true, true, true, true, true, true, true, true, true, true, true, true, false, false, false, false, false, false, false, false, false, false, false, false, false, false, false, false, false, false, false, false, false, false, false, false, false, false, false, false, false, false, false, false, false, false, false, false, false, false, false, false, false, false, false, false, false, false, false, false, false, false] rfl rfl (any_of HT_.out (by kernel_rfl)) (fun _ _ _ h => h) (Or.inl ⟨by rfl, ?_⟩) ?_ ?_
                                          rotate_left
                                          · intro w'
                                            go_simp
                                            with_reducible rfl
                                          rotate_left
                                          · simp only [Act.put, List.setIfInBounds_toArray, List.set_cons_zero, List.set_cons_succ, i64_w, i32_w]
                                            rfl
                                          refine pure_ (i := 46) (N := some 102) (v := ?_) (a' := ?_) #[true, true, true, true, true, true, true, true, true, true, true, true, true, true, true, true, true, true, true, true, true, true, true, true, true, true, true, true, true, true, true, true, true, true, true, true, true, true, true, true, true, true, true, true, true, true, true, false, false, false, false, false, false, false, false, false, false, false, false, false, false, false, false, false, false, false, false, false, false, false, false, false, false, false, false, false, false, false, false, false, false, false, false, false, false, false, false, false, false, false, false, false, false, false, false, false] rfl rfl (any_of HT_.out (by kernel_rfl)) (fun _ _ _ h => h) (Or.inl ⟨by rfl, ?_⟩) ?_ ?_
                                          rotate_left
                                          · intro w'
                                            go_simp
                                            with_reducible rfl
                                          rotate_left
                                          · simp only [Act.put, List.setIfInBounds_toArray, List.set_cons_zero, List.set_cons_succ, i64_w, i32_w]
                                            rfl
                                          refine take_ (i := 47) (N := some 103) (v := ?_) (a' := ?_) #[true, true, true, true, true, true, true, true, true, true, true, true, true, true, true, true, true, true, true, true, true, true, true, true, true, true, true, true, true, true, true, true, true, true, true, true, true, true, true, true, true, true, true, true, true, true, true, true, false, false, false, false, false, false, false, false, false, false, false, false, false, false, false, false, false, false, false, false, false, false, false, false, false, false, false, false, false, false, false, false, false, false, false, false, false, false, false, false, false, false, false, false, false, false, false, false] rfl rfl (take_ofW HT_.out HW_.out (by kernel_rfl)) (fun _ _ _ h => h) (Or.inl ⟨by rfl, ?_⟩) hHeld ?_ ?_
                                          rotate_left
                                          · rintro w' ⟨s0, s1, s2, s3, s4, s5, s6, s7, s8, s9⟩
                                            go_simp
                                            with_reducible rfl
                                          rotate_left
                                          · simp only [Act.put, List.setIfInBounds_toArray, List.set_cons_zero, List.set_cons_succ, i64_w, i32_w]
                                            rfl
                                          refine one_ (i := 48) (N := some 104) #[true, true, true, true, true, true, true, true, true, true, true, true, true, true, true, true, true, true, true, true, true, true, true, true, true, true, true, true, true, true, true, true, true, true, true, true, true, true, true, true, true, true, true, true, true, true, true, true, true, false, false, false, false, false, false, false, false, false, false, false, false, false, false, false, false, false, false, false, false, false, false, false, false, false, false, false, false, false, false, false, false, false, false, false, false, false, false, false, false, false, false, false, false, false, false, false] rfl rfl (one_of HT_.out (by kernel_rfl)) (by decide) (fun K hK => ?_)
                                          refine goes_ Tryd.func11 (by kernel_rfl) rfl #[.agg #[.int .i64 1, .int .i64 2, .string (⟨#[97]⟩ : ByteArray), .string (⟨#[120]⟩ : ByteArray), .int .i64 3]] (by rfl) rfl rfl (by (try simp only [List.map_toArray, List.map_cons, List.map_nil]); first | done | rfl | (simp only [List.length_drop, List.length_take]; rfl)) ?_
                                          with_reducible refine (event_Right.calls 1 2 (⟨#[97]⟩ : ByteArray) (⟨#[120]⟩ : ByteArray) 3 true _ A21.out).mono ?_
                                          rintro e w65 ⟨rfl, hb⟩
                                          refine ⟨_, rfl, ?_⟩
                                          have n0_ := Aside0.mk (Kd.R_below (by (with_reducible repeat (first | apply Kd.R_alloc | apply Kd.R_drewN | apply Kd.R_drew)); exact HO184.out) hb)
                                          have n1_ := Aside0.mk (Kd.R_below (by (with_reducible repeat (first | apply Kd.R_alloc | apply Kd.R_drewN | apply Kd.R_drew)); exact HO189.out) hb)
                                          have n2_ := Aside0.mk (Kd.R_below (by (with_reducible repeat (first | apply Kd.R_alloc | apply Kd.R_drewN | apply Kd.R_drew)); exact HO194.out) hb)
                                          have n3_ := Aside0.mk (Kd.R_below (by (with_reducible repeat (first | apply Kd.R_alloc | apply Kd.R_drewN | apply Kd.R_drew)); exact HO197.out) hb)
                                          have n4_ := Aside0.mk (blk_below (g := gb154) (o := .cells #[.int .i64 1, .int .i64 2, .string (⟨#[97]⟩ : ByteArray), .string (⟨#[120]⟩ : ByteArray), .int .i64 3] 23 (0, 0)) (by (with_reducible repeat (first | refine blk_drewN ?_ _ | refine blk_drew ?_ | refine blk_alloc ?_ _)); exact BK154.out) hb)
                                          have n5_ := Aside0.mk (blk_below (g := gb163) (o := .cells #[.int .i64 t156, .int .i64 t157, .string t158, .string t159, .int .i64 t160] 23 (0, 0)) (by (with_reducible repeat (first | refine blk_drewN ?_ _ | refine blk_drew ?_ | refine blk_alloc ?_ _)); exact BK163.out) hb)
                                          have n6_ := Aside0.mk (blk_below (g := gb171) (o := .cells #[.int .i64 t164, .int .i64 t165, .string t166, .string t167, .int .i64 t168] 23 (0, 0)) (by (with_reducible repeat (first | refine blk_drewN ?_ _ | refine blk_drew ?_ | refine blk_alloc ?_ _)); exact BK171.out) hb)
                                          have n7_ := Aside0.mk (blk_below (g := gb179) (o := .cells #[.int .i64 t172, .int .i64 t173, .string t174, .string t175, .int .i64 t176] 23 (0, 0)) (by (with_reducible repeat (first | refine blk_drewN ?_ _ | refine blk_drew ?_ | refine blk_alloc ?_ _)); exact BK179.out) hb)
                                          have n8_ := Aside0.mk (below_step (by repeat (first | (with_reducible first | exact HB.out | apply below_alloc | apply pw_below_drewN | apply below_drew1 | refine below_set ?_ GE154.out | refine below_set ?_ GE163.out | refine below_set ?_ GE171.out | refine below_set ?_ GE179.out) | exact HB.out)) hb)
                                          clear HO184
                                          clear HO189
                                          clear HO194
                                          clear HO197
                                          clear BK154
                                          clear BK163
                                          clear BK171
                                          clear BK179
                                          clear HB
                                          have HO184 := n0_
                                          have HO189 := n1_
                                          have HO194 := n2_
                                          have HO197 := n3_
                                          have BK154 := n4_
                                          have BK163 := n5_
                                          have BK171 := n6_
                                          have BK179 := n7_
                                          have HB := n8_
                                          clear n0_ n1_ n2_ n3_ n4_ n5_ n6_ n7_ n8_
                                          (try clear hb)
                                          (try clear hb2)
                                          (try clear hk)
                                          (try clear hi)
                                          refine hK.out _ _ ⟨(blk_cell BK163.out 0).trans rfl, (blk_cell BK163.out 1).trans rfl, (blk_cell BK163.out 2).trans rfl, (blk_cell BK163.out 3).trans rfl, (blk_cell BK163.out 4).trans rfl, (blk_cell BK154.out 0).trans rfl, (blk_cell BK154.out 1).trans rfl, (blk_cell BK154.out 2).trans rfl, (blk_cell BK154.out 3).trans rfl, (blk_cell BK154.out 4).trans rfl⟩ (fun hHeld => ?_)
                                          clear hK K
                                          refine norm_ (a' := ?_) ?_ ?_
                                          rotate_left
                                          · show Act.put _ (some 104) _ = _
                                            simp only [Act.put, List.setIfInBounds_toArray, List.set_cons_zero, List.set_cons_succ, i64_w, i32_w]
                                            rfl
                                          refine pure_ (i := 49) (N := some 105) (v := ?_) (a' := ?_) #[true, true, true, true, true, true, true, true, true, true, true, true, true, true, true, true, true, true, true, true, true, true, true, true, true, true, true, true, true, true, true, true, true, true, true, true, true, true, true, true, true, true, true, true, true, true, true, true, true, true, false, false, false, false, false, false, false, false, false, false, false, false, false, false, false, false, false, false, false, false, false, false, false, false, false, false, false, false, false, false, false, false, false, false, false, false, false, false, false, false, false, false, false, false, false, false] rfl rfl (any_of HT_.out (by kernel_rfl)) (fun _ _ _ h => h) (Or.inl ⟨by rfl, ?_⟩) ?_ ?_
                                          rotate_left
                                          · intro w'
                                            go_simp
                                            with_reducible rfl
                                          rotate_left
                                          · simp only [Act.put, List.setIfInBounds_toArray, List.set_cons_zero, List.set_cons_succ, i64_w, i32_w]
                                            rfl
                                          refine pure_ (i := 50) (N := some 106) (v := ?_) (a' := ?_) #[true, true, true, true, true, true, true, true, true, true, true, true, true, true, true, true, true, true, true, true, true, true, true, true, true, true, true, true, true, true, true, true, true, true, true, true, true, true, true, true, true, true, true, true, true, true, true, true, true, true, true, false, false, false, false, false, false, false, false, false, false, false, false, false, false, false, false, false, false, false, false, false, false, false, false, false, false, false, false, false, false, false, false, false, false, false, false, false, false, false, false, false, false, false, false, false] rfl rfl (any_of HT_.out (by kernel_rfl)) (fun _ _ _ h => h) (Or.inl ⟨by rfl, ?_⟩) ?_ ?_
                                          rotate_left
                                          · intro w'
                                            go_simp
                                            with_reducible rfl
                                          rotate_left
                                          · simp only [Act.put, List.setIfInBounds_toArray, List.set_cons_zero, List.set_cons_succ, i64_w, i32_w]
                                            rfl
                                          refine pure_ (i := 51) (N := some 107) (v := ?_) (a' := ?_) #[true, true, true, true, true, true, true, true, true, true, true, true, true, true, true, true, true, true, true, true, true, true, true, true, true, true, true, true, true, true, true, true, true, true, true, true, true, true, true, true, true, true, true, true, true, true, true, true, true, true, true, true, false, false, false, false, false, false, false, false, false, false, false, false, false, false, false, false, false, false, false, false, false, false, false, false, false, false, false, false, false, false, false, false, false, false, false, false, false, false, false, false, false, false, false, false] rfl rfl (any_of HT_.out (by kernel_rfl)) (fun _ _ _ h => h) (Or.inl ⟨by rfl, ?_⟩) ?_ ?_
                                          rotate_left
                                          · intro w'
                                            go_simp
                                            with_reducible rfl
                                          rotate_left
                                          · simp only [Act.put, List.setIfInBounds_toArray, List.set_cons_zero, List.set_cons_succ, i64_w, i32_w]
                                            rfl
                                          refine one_ (i := 52) (N := some 108) #[true, true, true, true, true, true, true, true, true, true, true, true, true, true, true, true, true, true, true, true, true, true, true, true, true, true, true, true, true, true, true, true, true, true, true, true, true, true, true, true, true, true, true, true, true, true, true, true, true, true, true, true, true, false, false, false, false, false, false, false, false, false, false, false, false, false, false, false, false, false, false, false, false, false, false, false, false, false, false, false, false, false, false, false, false, false, false, false, false, false, false, false, false, false, false, false] rfl rfl (one_of HT_.out (by kernel_rfl)) (by decide) (fun K hK => ?_)
                                          refine goes_ Tryd.func11 (by kernel_rfl) rfl #[.agg #[.int .i64 0, .int .i64 0, .string (⟨#[]⟩ : ByteArray), .string (⟨#[]⟩ : ByteArray), .int .i64 0]] (by rfl) rfl rfl (by (try simp only [List.map_toArray, List.map_cons, List.map_nil]); first | done | rfl | (simp only [List.length_drop, List.length_take]; rfl)) ?_
                                          with_reducible refine (event_Right.calls 0 0 (⟨#[]⟩ : ByteArray) (⟨#[]⟩ : ByteArray) 0 false _ A23.out).mono ?_
                                          rintro e w66 ⟨rfl, hb⟩
                                          refine ⟨_, rfl, ?_⟩
                                          have n0_ := Aside0.mk (Kd.R_below (by (with_reducible repeat (first | apply Kd.R_alloc | apply Kd.R_drewN | apply Kd.R_drew)); exact HO184.out) hb)
                                          have n1_ := Aside0.mk (Kd.R_below (by (with_reducible repeat (first | apply Kd.R_alloc | apply Kd.R_drewN | apply Kd.R_drew)); exact HO189.out) hb)
                                          have n2_ := Aside0.mk (Kd.R_below (by (with_reducible repeat (first | apply Kd.R_alloc | apply Kd.R_drewN | apply Kd.R_drew)); exact HO194.out) hb)
                                          have n3_ := Aside0.mk (Kd.R_below (by (with_reducible repeat (first | apply Kd.R_alloc | apply Kd.R_drewN | apply Kd.R_drew)); exact HO197.out) hb)
                                          have n4_ := Aside0.mk (blk_below (g := gb154) (o := .cells #[.int .i64 1, .int .i64 2, .string (⟨#[97]⟩ : ByteArray), .string (⟨#[120]⟩ : ByteArray), .int .i64 3] 23 (0, 0)) (by (with_reducible repeat (first | refine blk_drewN ?_ _ | refine blk_drew ?_ | refine blk_alloc ?_ _)); exact BK154.out) hb)
                                          have n5_ := Aside0.mk (blk_below (g := gb163) (o := .cells #[.int .i64 t156, .int .i64 t157, .string t158, .string t159, .int .i64 t160] 23 (0, 0)) (by (with_reducible repeat (first | refine blk_drewN ?_ _ | refine blk_drew ?_ | refine blk_alloc ?_ _)); exact BK163.out) hb)
                                          have n6_ := Aside0.mk (blk_below (g := gb171) (o := .cells #[.int .i64 t164, .int .i64 t165, .string t166, .string t167, .int .i64 t168] 23 (0, 0)) (by (with_reducible repeat (first | refine blk_drewN ?_ _ | refine blk_drew ?_ | refine blk_alloc ?_ _)); exact BK171.out) hb)
                                          have n7_ := Aside0.mk (blk_below (g := gb179) (o := .cells #[.int .i64 t172, .int .i64 t173, .string t174, .string t175, .int .i64 t176] 23 (0, 0)) (by (with_reducible repeat (first | refine blk_drewN ?_ _ | refine blk_drew ?_ | refine blk_alloc ?_ _)); exact BK179.out) hb)
                                          have n8_ := Aside0.mk (below_step (by repeat (first | (with_reducible first | exact HB.out | apply below_alloc | apply pw_below_drewN | apply below_drew1 | refine below_set ?_ GE154.out | refine below_set ?_ GE163.out | refine below_set ?_ GE171.out | refine below_set ?_ GE179.out) | exact HB.out)) hb)
                                          clear HO184
                                          clear HO189
                                          clear HO194
                                          clear HO197
                                          clear BK154
                                          clear BK163
                                          clear BK171
                                          clear BK179
                                          clear HB
                                          have HO184 := n0_
                                          have HO189 := n1_
                                          have HO194 := n2_
                                          have HO197 := n3_
                                          have BK154 := n4_
                                          have BK163 := n5_
                                          have BK171 := n6_
                                          have BK179 := n7_
                                          have HB := n8_
                                          clear n0_ n1_ n2_ n3_ n4_ n5_ n6_ n7_ n8_
                                          (try clear hb)
                                          (try clear hb2)
                                          (try clear hk)
                                          (try clear hi)
                                          refine hK.out _ _ ⟨(blk_cell BK163.out 0).trans rfl, (blk_cell BK163.out 1).trans rfl, (blk_cell BK163.out 2).trans rfl, (blk_cell BK163.out 3).trans rfl, (blk_cell BK163.out 4).trans rfl, (blk_cell BK154.out 0).trans rfl, (blk_cell BK154.out 1).trans rfl, (blk_cell BK154.out 2).trans rfl, (blk_cell BK154.out 3).trans rfl, (blk_cell BK154.out 4).trans rfl⟩ (fun hHeld => ?_)
                                          clear hK K
                                          refine norm_ (a' := ?_) ?_ ?_
                                          rotate_left
                                          · show Act.put _ (some 108) _ = _
                                            simp only [Act.put, List.setIfInBounds_toArray, List.set_cons_zero, List.set_cons_succ, i64_w, i32_w]
                                            rfl
                                          refine pure_ (i := 53) (N := some 109) (v := ?_) (a' := ?_) #[true, true, true, true, true, true, true, true, true, true, true, true, true, true, true, true, true, true, true, true, true, true, true, true, true, true, true, true, true, true, true, true, true, true, true, true, true, true, true, true, true, true, true, true, true, true, true, true, true, true, true, true, true, true, false, false, false, false, false, false, false, false, false, false, false, false, false, false, false, false, false, false, false, false, false, false, false, false, false, false, false, false, false, false, false, false, false, false, false, false, false, false, false, false, false, false] rfl rfl (any_of HT_.out (by kernel_rfl)) (fun _ _ _ h => h) (Or.inl ⟨by rfl, ?_⟩) ?_ ?_
                                          rotate_left
                                          · intro w'
                                            go_simp
                                            with_reducible rfl
                                          rotate_left
                                          · simp only [Act.put, List.setIfInBounds_toArray, List.set_cons_zero, List.set_cons_succ, i64_w, i32_w]
                                            rfl
                                          refine pure_ (i := 54) (N := some 110) (v := ?_) (a' := ?_) #[true, true, true, true, true, true, true, true, true, true, true, true, true, true, true, true, true, true, true, true, true, true, true, true, true, true, true, true, true, true, true, true, true, true, true, true, true, true, true, true, true, true, true, true, true, true, true, true, true, true, true, true, true, true, true, false, false, false, false, false, false, false, false, false, false, false, false, false, false, false, false, false, false, false, false, false, false, false, false, false, false, false, false, false, false, false, false, false, false, false, false, false, false, false, false, false] rfl rfl (any_of HT_.out (by kernel_rfl)) (fun _ _ _ h => h) (Or.inl ⟨by rfl, ?_⟩) ?_ ?_
                                          rotate_left
                                          · intro w'
                                            go_simp
                                            with_reducible rfl
                                          rotate_left
                                          · simp only [Act.put, List.setIfInBounds_toArray, List.set_cons_zero, List.set_cons_succ, i64_w, i32_w]
                                            rfl
                                          refine pure_ (i := 55) (N := some 111) (v := ?_) (a' := ?_) #[true, true, true, true, true, true, true, true, true, true, true, true, true, true, true, true, true, true, true, true, true, true, true, true, true, true, true, true, true, true, true, true, true, true, true, true, true, true, true, true, true, true, true, true, true, true, true, true, true, true, true, true, true, true, true, true, false, false, false, false, false, false, false, false, false, false, false, false, false, false, false, false, false, false, false, false, false, false, false, false, false, false, false, false, false, false, false, false, false, false, false, false, false, false, false, false] rfl rfl (any_of HT_.out (by kernel_rfl)) (fun _ _ _ h => h) (Or.inl ⟨by rfl, ?_⟩) ?_ ?_
                                          rotate_left
                                          · intro w'
                                            go_simp
                                            with_reducible rfl
                                          rotate_left
                                          · simp only [Act.put, List.setIfInBounds_toArray, List.set_cons_zero, List.set_cons_succ, i64_w, i32_w]
                                            rfl
                                          refine take_ (i := 56) (N := some 112) (v := ?_) (a' := ?_) #[true, true, true, true, true, true, true, true, true, true, true, true, true, true, true, true, true, true, true, true, true, true, true, true, true, true, true, true, true, true, true, true, true, true, true, true, true, true, true, true, true, true, true, true, true, true, true, true, true, true, true, true, true, true, true, true, true, false, false, false, false, false, false, false, false, false, false, false, false, false, false, false, false, false, false, false, false, false, false, false, false, false, false, false, false, false, false, false, false, false, false, false, false, false, false, false] rfl rfl (take_ofW HT_.out HW_.out (by kernel_rfl)) (fun _ _ _ h => h) (Or.inl ⟨by rfl, ?_⟩) hHeld ?_ ?_
                                          rotate_left
                                          · rintro w' ⟨s0, s1, s2, s3, s4, s5, s6, s7, s8, s9⟩
                                            go_simp
                                            with_reducible rfl
                                          rotate_left
                                          · simp only [Act.put, List.setIfInBounds_toArray, List.set_cons_zero, List.set_cons_succ, i64_w, i32_w]
                                            rfl
                                          refine one_ (i := 57) (N := some 113) #[true, true, true, true, true, true, true, true, true, true, true, true, true, true, true, true, true, true, true, true, true, true, true, true, true, true, true, true, true, true, true, true, true, true, true, true, true, true, true, true, true, true, true, true, true, true, true, true, true, true, true, true, true, true, true, true, true, true, false, false, false, false, false, false, false, false, false, false, false, false, false, false, false, false, false, false, false, false, false, false, false, false, false, false, false, false, false, false, false, false, false, false, false, false, false, false] rfl rfl (one_of HT_.out (by kernel_rfl)) (by decide) (fun K hK => ?_)
                                          refine goes_ Tryd.func17 (by kernel_rfl) rfl #[.agg #[.int .i64 1, .int .i64 2, .string (⟨#[97]⟩ : ByteArray), .string (⟨#[120]⟩ : ByteArray), .int .i64 3], .int .i64 2] (by rfl) rfl rfl (by (try simp only [List.map_toArray, List.map_cons, List.map_nil]); first | done | rfl | (simp only [List.length_drop, List.length_take]; rfl)) ?_
                                          with_reducible refine (event_Age.calls 1 2 (⟨#[97]⟩ : ByteArray) (⟨#[120]⟩ : ByteArray) 3 2 t201 t202 t203 t204 t205 _ A25.out).mono ?_
                                          rintro e w67 ⟨rfl, hb⟩
                                          refine ⟨_, rfl, ?_⟩
                                          have n0_ := Aside0.mk (Kd.R_below (by (with_reducible repeat (first | apply Kd.R_alloc | apply Kd.R_drewN | apply Kd.R_drew)); exact HO184.out) hb)
                                          have n1_ := Aside0.mk (Kd.R_below (by (with_reducible repeat (first | apply Kd.R_alloc | apply Kd.R_drewN | apply Kd.R_drew)); exact HO189.out) hb)
                                          have n2_ := Aside0.mk (Kd.R_below (by (with_reducible repeat (first | apply Kd.R_alloc | apply Kd.R_drewN | apply Kd.R_drew)); exact HO194.out) hb)
                                          have n3_ := Aside0.mk (Kd.R_below (by (with_reducible repeat (first | apply Kd.R_alloc | apply Kd.R_drewN | apply Kd.R_drew)); exact HO197.out) hb)
                                          have n4_ := Aside0.mk (blk_below (g := gb154) (o := .cells #[.int .i64 1, .int .i64 2, .string (⟨#[97]⟩ : ByteArray), .string (⟨#[120]⟩ : ByteArray), .int .i64 3] 23 (0, 0)) (by (with_reducible repeat (first | refine blk_drewN ?_ _ | refine blk_drew ?_ | refine blk_alloc ?_ _)); exact BK154.out) hb)
                                          have n5_ := Aside0.mk (blk_below (g := gb163) (o := .cells #[.int .i64 t156, .int .i64 t157, .string t158, .string t159, .int .i64 t160] 23 (0, 0)) (by (with_reducible repeat (first | refine blk_drewN ?_ _ | refine blk_drew ?_ | refine blk_alloc ?_ _)); exact BK163.out) hb)
                                          have n6_ := Aside0.mk (blk_below (g := gb171) (o := .cells #[.int .i64 t164, .int .i64 t165, .string t166, .string t167, .int .i64 t168] 23 (0, 0)) (by (with_reducible repeat (first | refine blk_drewN ?_ _ | refine blk_drew ?_ | refine blk_alloc ?_ _)); exact BK171.out) hb)
                                          have n7_ := Aside0.mk (blk_below (g := gb179) (o := .cells #[.int .i64 t172, .int .i64 t173, .string t174, .string t175, .int .i64 t176] 23 (0, 0)) (by (with_reducible repeat (first | refine blk_drewN ?_ _ | refine blk_drew ?_ | refine blk_alloc ?_ _)); exact BK179.out) hb)
                                          have n8_ := Aside0.mk (below_step (by repeat (first | (with_reducible first | exact HB.out | apply below_alloc | apply pw_below_drewN | apply below_drew1 | refine below_set ?_ GE154.out | refine below_set ?_ GE163.out | refine below_set ?_ GE171.out | refine below_set ?_ GE179.out) | exact HB.out)) hb)
                                          clear HO184
                                          clear HO189
                                          clear HO194
                                          clear HO197
                                          clear BK154
                                          clear BK163
                                          clear BK171
                                          clear BK179
                                          clear HB
                                          have HO184 := n0_
                                          have HO189 := n1_
                                          have HO194 := n2_
                                          have HO197 := n3_
                                          have BK154 := n4_
                                          have BK163 := n5_
                                          have BK171 := n6_
                                          have BK179 := n7_
                                          have HB := n8_
                                          clear n0_ n1_ n2_ n3_ n4_ n5_ n6_ n7_ n8_
                                          (try clear hb)
                                          (try clear hb2)
                                          (try clear hk)
                                          (try clear hi)
                                          refine hK.out _ _ ⟨(blk_cell BK163.out 0).trans rfl, (blk_cell BK163.out 1).trans rfl, (blk_cell BK163.out 2).trans rfl, (blk_cell BK163.out 3).trans rfl, (blk_cell BK163.out 4).trans rfl, (blk_cell BK154.out 0).trans rfl, (blk_cell BK154.out 1).trans rfl, (blk_cell BK154.out 2).trans rfl, (blk_cell BK154.out 3).trans rfl, (blk_cell BK154.out 4).trans rfl⟩ (fun hHeld => ?_)
                                          clear hK K
                                          refine norm_ (a' := ?_) ?_ ?_
                                          rotate_left
                                          · show Act.put _ (some 113) _ = _
                                            simp only [Act.put, List.setIfInBounds_toArray, List.set_cons_zero, List.set_cons_succ, i64_w, i32_w]
                                            rfl
                                          refine pure_ (i := 58) (N := some 114) (v := ?_) (a' := ?_) #[true, true, true, true, true, true, true, true, true, true, true, true, true, true, true, true, true, true, true, true, true, true, true, true, true, true, true, true, true, true, true, true, true, true, true, true, true, true, true, true, true, true, true, true, true, true, true, true, true, true, true, true, true, true, true, true, true, true, true, false, false, false, false, false, false, false, false, false, false, false, false, false, false, false, false, false, false, false, false, false, false, false, false, false, false, false, false, false, false, false, false, false, false, false, false, false] rfl rfl (any_of HT_.out (by kernel_rfl)) (fun _ _ _ h => h) (Or.inl ⟨by rfl, ?_⟩) ?_ ?_
                                          rotate_left
                                          · intro w'
                                            go_simp
                                            with_reducible rfl
                                          rotate_left
                                          · simp only [Act.put, List.setIfInBounds_toArray, List.set_cons_zero, List.set_cons_succ, i64_w, i32_w]
                                            rfl
                                          refine pure_ (i := 59) (N := some 115) (v := ?_) (a' := ?_) #[true, true, true, true, true, true, true, true, true, true, true, true, true, true, true, true, true, true, true, true, true, true, true, true, true, true, true, true, true, true, true, true, true, true, true, true, true, true, true, true, true, true, true, true, true, true, true, true, true, true, true, true, true, true, true, true, true, true, true, true, false, false, false, false, false, false, false, false, false, false, false, false, false, false, false, false, false, false, false, false, false, false, false, false, false, false, false, false, false, false, false, false, false, false, false, false] rfl rfl (any_of HT_.out (by kernel_rfl)) (fun _ _ _ h => h) (Or.inl ⟨by rfl, ?_⟩) ?_ ?_
                                          rotate_left
                                          · intro w'
                                            go_simp
                                            with_reducible rfl
                                          rotate_left
                                          · simp only [Act.put, List.setIfInBounds_toArray, List.set_cons_zero, List.set_cons_succ, i64_w, i32_w]
                                            rfl
                                          refine pure_ (i := 60) (N := some 116) (v := ?_) (a' := ?_) #[true, true, true, true, true, true, true, true, true, true, true, true, true, true, true, true, true, true, true, true, true, true, true, true, true, true, true, true, true, true, true, true, true, true, true, true, true, true, true, true, true, true, true, true, true, true, true, true, true, true, true, true, true, true, true, true, true, true, true, true, true, false, false, false, false, false, false, false, false, false, false, false, false, false, false, false, false, false, false, false, false, false, false, false, false, false, false, false, false, false, false, false, false, false, false, false] rfl rfl (any_of HT_.out (by kernel_rfl)) (fun _ _ _ h => h) (Or.inl ⟨by rfl, ?_⟩) ?_ ?_
                                          rotate_left
                                          · intro w'
                                            go_simp
                                            with_reducible rfl
                                          rotate_left
                                          · simp only [Act.put, List.setIfInBounds_toArray, List.set_cons_zero, List.set_cons_succ, i64_w, i32_w]
                                            rfl
                                          refine pure_ (i := 61) (N := some 117) (v := ?_) (a' := ?_) #[true, true, true, true, true, true, true, true, true, true, true, true, true, true, true, true, true, true, true, true, true, true, true, true, true, true, true, true, true, true, true, true, true, true, true, true, true, true, true, true, true, true, true, true, true, true, true, true, true, true, true, true, true, true, true, true, true, true, true, true, true, true, false, false, false, false, false, false, false, false, false, false, false, false, false, false, false, false, false, false, false, false, false, false, false, false, false, false, false, false, false, false, false, false, false, false] rfl rfl (any_of HT_.out (by kernel_rfl)) (fun _ _ _ h => h) (Or.inl ⟨by rfl, ?_⟩) ?_ ?_
                                          rotate_left
                                          · intro w'
                                            go_simp
                                            with_reducible rfl
                                          rotate_left
                                          · simp only [Act.put, List.setIfInBounds_toArray, List.set_cons_zero, List.set_cons_succ, i64_w, i32_w]
                                            rfl
                                          refine take_ (i := 62) (N := some 118) (v := ?_) (a' := ?_) #[true, true, true, true, true, true, true, true, true, true, true, true, true, true, true, true, true, true, true, true, true, true, true, true, true, true, true, true, true, true, true, true, true, true, true, true, true, true, true, true, true, true, true, true, true, true, true, true, true, true, true, true, true, true, true, true, true, true, true, true, true, true, true, false, false, false, false, false, false, false, false, false, false, false, false, false, false, false, false, false, false, false, false, false, false, false, false, false, false, false, false, false, false, false, false, false] rfl rfl (take_ofW HT_.out HW_.out (by kernel_rfl)) (fun _ _ _ h => h) (Or.inl ⟨by rfl, ?_⟩) hHeld ?_ ?_
                                          rotate_left
                                          · rintro w' ⟨s0, s1, s2, s3, s4, s5, s6, s7, s8, s9⟩
                                            go_simp
                                            with_reducible rfl
                                          rotate_left
                                          · simp only [Act.put, List.setIfInBounds_toArray, List.set_cons_zero, List.set_cons_succ, i64_w, i32_w]
                                            rfl
                                          refine one_ (i := 63) (N := some 119) #[true, true, true, true, true, true, true, true, true, true, true, true, true, true, true, true, true, true, true, true, true, true, true, true, true, true, true, true, true, true, true, true, true, true, true, true, true, true, true, true, true, true, true, true, true, true, true, true, true, true, true, true, true, true, true, true, true, true, true, true, true, true, true, true, false, false, false, false, false, false, false, false, false, false, false, false, false, false, false, false, false, false, false, false, false, false, false, false, false, false, false, false, false, false, false, false] rfl rfl (one_of HT_.out (by kernel_rfl)) (by decide) (fun K hK => ?_)
                                          refine goes_ Tryd.func17 (by kernel_rfl) rfl #[.agg #[.int .i64 1, .int .i64 2, .string (⟨#[97]⟩ : ByteArray), .string (⟨#[120]⟩ : ByteArray), .int .i64 3], .int .i64 9] (by rfl) rfl rfl (by (try simp only [List.map_toArray, List.map_cons, List.map_nil]); first | done | rfl | (simp only [List.length_drop, List.length_take]; rfl)) ?_
                                          with_reducible refine (event_Age.calls 1 2 (⟨#[97]⟩ : ByteArray) (⟨#[120]⟩ : ByteArray) 3 9 t206 t207 t208 t209 t210 _ A27.out).mono ?_
                                          rintro e w68 ⟨rfl, hb⟩
                                          refine ⟨_, rfl, ?_⟩
                                          have n0_ := Aside0.mk (Kd.R_below (by (with_reducible repeat (first | apply Kd.R_alloc | apply Kd.R_drewN | apply Kd.R_drew)); exact HO184.out) hb)
                                          have n1_ := Aside0.mk (Kd.R_below (by (with_reducible repeat (first | apply Kd.R_alloc | apply Kd.R_drewN | apply Kd.R_drew)); exact HO189.out) hb)
                                          have n2_ := Aside0.mk (Kd.R_below (by (with_reducible repeat (first | apply Kd.R_alloc | apply Kd.R_drewN | apply Kd.R_drew)); exact HO194.out) hb)
                                          have n3_ := Aside0.mk (Kd.R_below (by (with_reducible repeat (first | apply Kd.R_alloc | apply Kd.R_drewN | apply Kd.R_drew)); exact HO197.out) hb)
                                          have n4_ := Aside0.mk (blk_below (g := gb154) (o := .cells #[.int .i64 1, .int .i64 2, .string (⟨#[97]⟩ : ByteArray), .string (⟨#[120]⟩ : ByteArray), .int .i64 3] 23 (0, 0)) (by (with_reducible repeat (first | refine blk_drewN ?_ _ | refine blk_drew ?_ | refine blk_alloc ?_ _)); exact BK154.out) hb)
                                          have n5_ := Aside0.mk (blk_below (g := gb163) (o := .cells #[.int .i64 t156, .int .i64 t157, .string t158, .string t159, .int .i64 t160] 23 (0, 0)) (by (with_reducible repeat (first | refine blk_drewN ?_ _ | refine blk_drew ?_ | refine blk_alloc ?_ _)); exact BK163.out) hb)
                                          have n6_ := Aside0.mk (blk_below (g := gb171) (o := .cells #[.int .i64 t164, .int .i64 t165, .string t166, .string t167, .int .i64 t168] 23 (0, 0)) (by (with_reducible repeat (first | refine blk_drewN ?_ _ | refine blk_drew ?_ | refine blk_alloc ?_ _)); exact BK171.out) hb)
                                          have n7_ := Aside0.mk (blk_below (g := gb179) (o := .cells #[.int .i64 t172, .int .i64 t173, .string t174, .string t175, .int .i64 t176] 23 (0, 0)) (by (with_reducible repeat (first | refine blk_drewN ?_ _ | refine blk_drew ?_ | refine blk_alloc ?_ _)); exact BK179.out) hb)
                                          have n8_ := Aside0.mk (below_step (by repeat (first | (with_reducible first | exact HB.out | apply below_alloc | apply pw_below_drewN | apply below_drew1 | refine below_set ?_ GE154.out | refine below_set ?_ GE163.out | refine below_set ?_ GE171.out | refine below_set ?_ GE179.out) | exact HB.out)) hb)
                                          clear HO184
                                          clear HO189
                                          clear HO194
                                          clear HO197
                                          clear BK154
                                          clear BK163
                                          clear BK171
                                          clear BK179
                                          clear HB
                                          have HO184 := n0_
                                          have HO189 := n1_
                                          have HO194 := n2_
                                          have HO197 := n3_
                                          have BK154 := n4_
                                          have BK163 := n5_
                                          have BK171 := n6_
                                          have BK179 := n7_
                                          have HB := n8_
                                          clear n0_ n1_ n2_ n3_ n4_ n5_ n6_ n7_ n8_
                                          (try clear hb)
                                          (try clear hb2)
                                          (try clear hk)
                                          (try clear hi)
                                          refine hK.out _ _ ⟨(blk_cell BK163.out 0).trans rfl, (blk_cell BK163.out 1).trans rfl, (blk_cell BK163.out 2).trans rfl, (blk_cell BK163.out 3).trans rfl, (blk_cell BK163.out 4).trans rfl, (blk_cell BK154.out 0).trans rfl, (blk_cell BK154.out 1).trans rfl, (blk_cell BK154.out 2).trans rfl, (blk_cell BK154.out 3).trans rfl, (blk_cell BK154.out 4).trans rfl⟩ (fun hHeld => ?_)
                                          clear hK K
                                          refine norm_ (a' := ?_) ?_ ?_
                                          rotate_left
                                          · show Act.put _ (some 119) _ = _
                                            simp only [Act.put, List.setIfInBounds_toArray, List.set_cons_zero, List.set_cons_succ, i64_w, i32_w]
                                            rfl
                                          refine pure_ (i := 64) (N := some 120) (v := ?_) (a' := ?_) #[true, true, true, true, true, true, true, true, true, true, true, true, true, true, true, true, true, true, true, true, true, true, true, true, true, true, true, true, true, true, true, true, true, true, true, true, true, true, true, true, true, true, true, true, true, true, true, true, true, true, true, true, true, true, true, true, true, true, true, true, true, true, true, true, true, false, false, false, false, false, false, false, false, false, false, false, false, false, false, false, false, false, false, false, false, false, false, false, false, false, false, false, false, false, false, false] rfl rfl (any_of HT_.out (by kernel_rfl)) (fun _ _ _ h => h) (Or.inl ⟨by rfl, ?_⟩) ?_ ?_
                                          rotate_left
                                          · intro w'
                                            go_simp
                                            with_reducible rfl
                                          rotate_left
                                          · simp only [Act.put, List.setIfInBounds_toArray, List.set_cons_zero, List.set_cons_succ, i64_w, i32_w]
                                            rfl
                                          refine pure_ (i := 65) (N := some 121) (v := ?_) (a' := ?_) #[true, true, true, true, true, true, true, true, true, true, true, true, true, true, true, true, true, true, true, true, true, true, true, true, true, true, true, true, true, true, true, true, true, true, true, true, true, true, true, true, true, true, true, true, true, true, true, true, true, true, true, true, true, true, true, true, true, true, true, true, true, true, true, true, true, true, false, false, false, false, false, false, false, false, false, false, false, false, false, false, false, false, false, false, false, false, false, false, false, false, false, false, false, false, false, false] rfl rfl (any_of HT_.out (by kernel_rfl)) (fun _ _ _ h => h) (Or.inl ⟨by rfl, ?_⟩) ?_ ?_
                                          rotate_left
                                          · intro w'
                                            go_simp
                                            with_reducible rfl
                                          rotate_left
                                          · simp only [Act.put, List.setIfInBounds_toArray, List.set_cons_zero, List.set_cons_succ, i64_w, i32_w]
                                            rfl
                                          refine pure_ (i := 66) (N := some 122) (v := ?_) (a' := ?_) #[true, true, true, true, true, true, true, true, true, true, true, true, true, true, true, true, true, true, true, true, true, true, true, true, true, true, true, true, true, true, true, true, true, true, true, true, true, true, true, true, true, true, true, true, true, true, true, true, true, true, true, true, true, true, true, true, true, true, true, true, true, true, true, true, true, true, true, false, false, false, false, false, false, false, false, false, false, false, false, false, false, false, false, false, false, false, false, false, false, false, false, false, false, false, false, false] rfl rfl (any_of HT_.out (by kernel_rfl)) (fun _ _ _ h => h) (Or.inl ⟨by rfl, ?_⟩) ?_ ?_
                                          rotate_left
                                          · intro w'
                                            go_simp
                                            with_reducible rfl
                                          rotate_left
                                          · simp only [Act.put, List.setIfInBounds_toArray, List.set_cons_zero, List.set_cons_succ, i64_w, i32_w]
                                            rfl
                                          refine pure_ (i := 67) (N := some 123) (v := ?_) (a' := ?_) #[true, true, true, true, true, true, true, true, true, true, true, true, true, true, true, true, true, true, true, true, true, true, true, true, true, true, true, true, true, true, true, true, true, true, true, true, true, true, true, true, true, true, true, true, true, true, true, true, true, true, true, true, true, true, true, true, true, true, true, true, true, true, true, true, true, true, true, true, false, false, false, false, false, false, false, false, false, false, false, false, false, false, false, false, false, false, false, false, false, false, false, false, false, false, false, false] rfl rfl (any_of HT_.out (by kernel_rfl)) (fun _ _ _ h => h) (Or.inl ⟨by rfl, ?_⟩) ?_ ?_
                                          rotate_left
                                          · intro w'
                                            go_simp
                                            with_reducible rfl
                                          rotate_left
                                          · simp only [Act.put, List.setIfInBounds_toArray, List.set_cons_zero, List.set_cons_succ, i64_w, i32_w]
                                            rfl
                                          refine take_ (i := 68) (N := some 124) (v := ?_) (a' := ?_) #[true, true, true, true, true, true, true, true, true, true, true, true, true, true, true, true, true, true, true, true, true, true, true, true, true, true, true, true, true, true, true, true, true, true, true, true, true, true, true, true, true, true, true, true, true, true, true, true, true, true, true, true, true, true, true, true, true, true, true, true, true, true, true, true, true, true, true, true, true, false, false, false, false, false, false, false, false, false, false, false, false, false, false, false, false, false, false, false, false, false, false, false, false, false, false, false] rfl rfl (take_ofW HT_.out HW_.out (by kernel_rfl)) (fun _ _ _ h => h) (Or.inl ⟨by rfl, ?_⟩) hHeld ?_ ?_
                                          rotate_left
                                          · rintro w' ⟨s0, s1, s2, s3, s4, s5, s6, s7, s8, s9⟩
                                            go_simp
                                            with_reducible rfl
                                          rotate_left
                                          · simp only [Act.put, List.setIfInBounds_toArray, List.set_cons_zero, List.set_cons_succ, i64_w, i32_w]
                                            rfl
                                          refine take_ (i := 70) (N := some 126) (v := ?_) (a' := ?_) #[true, true, true, true, true, true, true, true, true, true, true, true, true, true, true, true, true, true, true, true, true, true, true, true, true, true, true, true, true, true, true, true, true, true, true, true, true, true, true, true, true, true, true, true, true, true, true, true, true, true, true, true, true, true, true, true, true, true, true, true, true, true, true, true, true, true, true, true, true, false, true, false, false, false, false, false, false, false, false, false, false, false, false, false, false, false, false, false, false, false, false, false, false, false, false, false] rfl rfl (take_ofW HT_.out HW_.out (by kernel_rfl)) (fun _ _ _ h => h) (Or.inl ⟨by rfl, ?_⟩) hHeld ?_ ?_
                                          rotate_left
                                          · rintro w' ⟨s0, s1, s2, s3, s4, s5, s6, s7, s8, s9⟩
                                            go_simp
                                            with_reducible rfl
                                          rotate_left
                                          · simp only [Act.put, List.setIfInBounds_toArray, List.set_cons_zero, List.set_cons_succ, i64_w, i32_w]
                                            rfl
                                          refine one_ (i := 69) (N := some 125) #[true, true, true, true, true, true, true, true, true, true, true, true, true, true, true, true, true, true, true, true, true, true, true, true, true, true, true, true, true, true, true, true, true, true, true, true, true, true, true, true, true, true, true, true, true, true, true, true, true, true, true, true, true, true, true, true, true, true, true, true, true, true, true, true, true, true, true, true, true, true, true, false, false, false, false, false, false, false, false, false, false, false, false, false, false, false, false, false, false, false, false, false, false, false, false, false] rfl rfl (one_of HT_.out (by kernel_rfl)) (by decide) (fun K hK => ?_)
                                          refine goes_ Tryd.func17 (by kernel_rfl) rfl #[.agg #[.int .i64 1, .int .i64 2, .string (⟨#[97]⟩ : ByteArray), .string (⟨#[120]⟩ : ByteArray), .int .i64 3], .int .i64 (-1)] (by rfl) rfl rfl (by (try simp only [List.map_toArray, List.map_cons, List.map_nil]); first | done | rfl | (simp only [List.length_drop, List.length_take]; rfl)) ?_
                                          with_reducible refine (event_Age.calls 1 2 (⟨#[97]⟩ : ByteArray) (⟨#[120]⟩ : ByteArray) 3 (-1) t211 t212 t213 t214 t215 _ A29.out).mono ?_
                                          rintro e w69 ⟨rfl, hb⟩
                                          refine ⟨_, rfl, ?_⟩
                                          have n0_ := Aside0.mk (Kd.R_below (by (with_reducible repeat (first | apply Kd.R_alloc | apply Kd.R_drewN | apply Kd.R_drew)); exact HO184.out) hb)
                                          have n1_ := Aside0.mk (Kd.R_below (by (with_reducible repeat (first | apply Kd.R_alloc | apply Kd.R_drewN | apply Kd.R_drew)); exact HO189.out) hb)
                                          have n2_ := Aside0.mk (Kd.R_below (by (with_reducible repeat (first | apply Kd.R_alloc | apply Kd.R_drewN | apply Kd.R_drew)); exact HO194.out) hb)
                                          have n3_ := Aside0.mk (Kd.R_below (by (with_reducible repeat (first | apply Kd.R_alloc | apply Kd.R_drewN | apply Kd.R_drew)); exact HO197.out) hb)
                                          have n4_ := Aside0.mk (blk_below (g := gb154) (o := .cells #[.int .i64 1, .int .i64 2, .string (⟨#[97]⟩ : ByteArray), .string (⟨#[120]⟩ : ByteArray), .int .i64 3] 23 (0, 0)) (by (with_reducible repeat (first | refine blk_drewN ?_ _ | refine blk_drew ?_ | refine blk_alloc ?_ _)); exact BK154.out) hb)
                                          have n5_ := Aside0.mk (blk_below (g := gb163) (o := .cells #[.int .i64 t156, .int .i64 t157, .string t158, .string t159, .int .i64 t160] 23 (0, 0)) (by (with_reducible repeat (first | refine blk_drewN ?_ _ | refine blk_drew ?_ | refine blk_alloc ?_ _)); exact BK163.out) hb)
                                          have n6_ := Aside0.mk (blk_below (g := gb171) (o := .cells #[.int .i64 t164, .int .i64 t165, .string t166, .string t167, .int .i64 t168] 23 (0, 0)) (by (with_reducible repeat (first | refine blk_drewN ?_ _ | refine blk_drew ?_ | refine blk_alloc ?_ _)); exact BK171.out) hb)
                                          have n7_ := Aside0.mk (blk_below (g := gb179) (o := .cells #[.int .i64 t172, .int .i64 t173, .string t174, .string t175, .int .i64 t176] 23 (0, 0)) (by (with_reducible repeat (first | refine blk_drewN ?_ _ | refine blk_drew ?_ | refine blk_alloc ?_ _)); exact BK179.out) hb)
                                          have n8_ := Aside0.mk (below_step (by repeat (first | (with_reducible first | exact HB.out | apply below_alloc | apply pw_below_drewN | apply below_drew1 | refine below_set ?_ GE154.out | refine below_set ?_ GE163.out | refine below_set ?_ GE171.out | refine below_set ?_ GE179.out) | exact HB.out)) hb)
                                          clear HO184
                                          clear HO189
                                          clear HO194
                                          clear HO197
                                          clear BK154
                                          clear BK163
                                          clear BK171
                                          clear BK179
                                          clear HB
                                          have HO184 := n0_
                                          have HO189 := n1_
                                          have HO194 := n2_
                                          have HO197 := n3_
                                          have BK154 := n4_
                                          have BK163 := n5_
                                          have BK171 := n6_
                                          have BK179 := n7_
                                          have HB := n8_
                                          clear n0_ n1_ n2_ n3_ n4_ n5_ n6_ n7_ n8_
                                          (try clear hb)
                                          (try clear hb2)
                                          (try clear hk)
                                          (try clear hi)
                                          refine hK.out _ _ ⟨(blk_cell BK163.out 0).trans rfl, (blk_cell BK163.out 1).trans rfl, (blk_cell BK163.out 2).trans rfl, (blk_cell BK163.out 3).trans rfl, (blk_cell BK163.out 4).trans rfl, (blk_cell BK154.out 0).trans rfl, (blk_cell BK154.out 1).trans rfl, (blk_cell BK154.out 2).trans rfl, (blk_cell BK154.out 3).trans rfl, (blk_cell BK154.out 4).trans rfl⟩ (fun hHeld => ?_)
                                          clear hK K
                                          refine norm_ (a' := ?_) ?_ ?_
                                          rotate_left
                                          · show Act.put _ (some 125) _ = _
                                            simp only [Act.put, List.setIfInBounds_toArray, List.set_cons_zero, List.set_cons_succ, i64_w, i32_w]
                                            rfl
                                          refine pure_ (i := 71) (N := some 127) (v := ?_) (a' := ?_) #[true, true, true, true, true, true, true, true, true, true, true, true, true, true, true, true, true, true, true, true, true, true, true, true, true, true, true, true, true, true, true, true, true, true, true, true, true, true, true, true, true, true, true, true, true, true, true, true, true, true, true, true, true, true, true, true, true, true, true, true, true, true, true, true, true, true, true, true, true, true, true, true, false, false, false, false, false, false, false, false, false, false, false, false, false, false, false, false, false, false, false, false, false, false, false, false] rfl rfl (any_of HT_.out (by kernel_rfl)) (fun _ _ _ h => h) (Or.inl ⟨by rfl, ?_⟩) ?_ ?_
                                          rotate_left
                                          · intro w'
                                            go_simp
                                            with_reducible rfl
                                          rotate_left
                                          · simp only [Act.put, List.setIfInBounds_toArray, List.set_cons_zero, List.set_cons_succ, i64_w, i32_w]
                                            rfl
                                          refine pure_ (i := 72) (N := some 128) (v := ?_) (a' := ?_) #[true, true, true, true, true, true, true, true, true, true, true, true, true, true, true, true, true, true, true, true, true, true, true, true, true, true, true, true, true, true, true, true, true, true, true, true, true, true, true, true, true, true, true, true, true, true, true, true, true, true, true, true, true, true, true, true, true, true, true, true, true, true, true, true, true, true, true, true, true, true, true, true, true, false, false, false, false, false, false, false, false, false, false, false, false, false, false, false, false, false, false, false, false, false, false, false] rfl rfl (any_of HT_.out (by kernel_rfl)) (fun _ _ _ h => h) (Or.inl ⟨by rfl, ?_⟩) ?_ ?_
                                          rotate_left
                                          · intro w'
                                            go_simp
                                            with_reducible rfl
                                          rotate_left
                                          · simp only [Act.put, List.setIfInBounds_toArray, List.set_cons_zero, List.set_cons_succ, i64_w, i32_w]
                                            rfl
                                          refine pure_ (i := 73) (N := some 129) (v := ?_) (a' := ?_) #[true, true, true, true, true, true, true, true, true, true, true, true, true, true, true, true, true, true, true, true, true, true, true, true, true, true, true, true, true, true, true, true, true, true, true, true, true, true, true, true, true, true, true, true, true, true, true, true, true, true, true, true, true, true, true, true, true, true, true, true, true, true, true, true, true, true, true, true, true, true, true, true, true, true, false, false, false, false, false, false, false, false, false, false, false, false, false, false, false, false, false, false, false, false, false, false] rfl rfl (any_of HT_.out (by kernel_rfl)) (fun _ _ _ h => h) (Or.inl ⟨by rfl, ?_⟩) ?_ ?_
                                          rotate_left
                                          · intro w'
                                            go_simp
                                            with_reducible rfl
                                          rotate_left
                                          · simp only [Act.put, List.setIfInBounds_toArray, List.set_cons_zero, List.set_cons_succ, i64_w, i32_w]
                                            rfl
                                          refine take_ (i := 74) (N := some 130) (v := ?_) (a' := ?_) #[true, true, true, true, true, true, true, true, true, true, true, true, true, true, true, true, true, true, true, true, true, true, true, true, true, true, true, true, true, true, true, true, true, true, true, true, true, true, true, true, true, true, true, true, true, true, true, true, true, true, true, true, true, true, true, true, true, true, true, true, true, true, true, true, true, true, true, true, true, true, true, true, true, true, true, false, false, false, false, false, false, false, false, false, false, false, false, false, false, false, false, false, false, false, false, false] rfl rfl (take_ofW HT_.out HW_.out (by kernel_rfl)) (fun _ _ _ h => h) (Or.inl ⟨by rfl, ?_⟩) hHeld ?_ ?_
                                          rotate_left
                                          · rintro w' ⟨s0, s1, s2, s3, s4, s5, s6, s7, s8, s9⟩
                                            go_simp
                                            with_reducible rfl
                                          rotate_left
                                          · simp only [Act.put, List.setIfInBounds_toArray, List.set_cons_zero, List.set_cons_succ, i64_w, i32_w]
                                            rfl
                                          refine take_ (i := 75) (N := some 131) (v := ?_) (a' := ?_) #[true, true, true, true, true, true, true, true, true, true, true, true, true, true, true, true, true, true, true, true, true, true, true, true, true, true, true, true, true, true, true, true, true, true, true, true, true, true, true, true, true, true, true, true, true, true, true, true, true, true, true, true, true, true, true, true, true, true, true, true, true, true, true, true, true, true, true, true, true, true, true, true, true, true, true, true, false, false, false, false, false, false, false, false, false, false, false, false, false, false, false, false, false, false, false, false] rfl rfl (take_ofW HT_.out HW_.out (by kernel_rfl)) (fun _ _ _ h => h) (Or.inl ⟨by rfl, ?_⟩) hHeld ?_ ?_
                                          rotate_left
                                          · rintro w' ⟨s0, s1, s2, s3, s4, s5, s6, s7, s8, s9⟩
                                            go_simp
                                            with_reducible rfl
                                          rotate_left
                                          · simp only [Act.put, List.setIfInBounds_toArray, List.set_cons_zero, List.set_cons_succ, i64_w, i32_w]
                                            rfl
                                          refine one_ (i := 76) (N := some 132) #[true, true, true, true, true, true, true, true, true, true, true, true, true, true, true, true, true, true, true, true, true, true, true, true, true, true, true, true, true, true, true, true, true, true, true, true, true, true, true, true, true, true, true, true, true, true, true, true, true, true, true, true, true, true, true, true, true, true, true, true, true, true, true, true, true, true, true, true, true, true, true, true, true, true, true, true, true, false, false, false, false, false, false, false, false, false, false, false, false, false, false, false, false, false, false, false] rfl rfl (one_of HT_.out (by kernel_rfl)) (by decide) (fun K hK => ?_)
                                          refine goes_ Tryd.func17 (by kernel_rfl) rfl #[.agg #[.int .i64 1, .int .i64 2, .string (⟨#[97]⟩ : ByteArray), .string (⟨#[120]⟩ : ByteArray), .int .i64 3], .int .i64 1] (by rfl) rfl rfl (by (try simp only [List.map_toArray, List.map_cons, List.map_nil]); first | done | rfl | (simp only [List.length_drop, List.length_take]; rfl)) ?_
                                          with_reducible refine (event_Age.calls 1 2 (⟨#[97]⟩ : ByteArray) (⟨#[120]⟩ : ByteArray) 3 1 t216 t217 t218 t219 t220 _ A31.out).mono ?_
                                          rintro e w70 ⟨rfl, hb⟩
                                          refine ⟨_, rfl, ?_⟩
                                          have n0_ := Aside0.mk (Kd.R_below (by (with_reducible repeat (first | apply Kd.R_alloc | apply Kd.R_drewN | apply Kd.R_drew)); exact HO184.out) hb)
                                          have n1_ := Aside0.mk (Kd.R_below (by (with_reducible repeat (first | apply Kd.R_alloc | apply Kd.R_drewN | apply Kd.R_drew)); exact HO189.out) hb)
                                          have n2_ := Aside0.mk (Kd.R_below (by (with_reducible repeat (first | apply Kd.R_alloc | apply Kd.R_drewN | apply Kd.R_drew)); exact HO194.out) hb)
                                          have n3_ := Aside0.mk (Kd.R_below (by (with_reducible repeat (first | apply Kd.R_alloc | apply Kd.R_drewN | apply Kd.R_drew)); exact HO197.out) hb)
                                          have n4_ := Aside0.mk (blk_below (g := gb154) (o := .cells #[.int .i64 1, .int .i64 2, .string (⟨#[97]⟩ : ByteArray), .string (⟨#[120]⟩ : ByteArray), .int .i64 3] 23 (0, 0)) (by (with_reducible repeat (first | refine blk_drewN ?_ _ | refine blk_drew ?_ | refine blk_alloc ?_ _)); exact BK154.out) hb)
                                          have n5_ := Aside0.mk (blk_below (g := gb163) (o := .cells #[.int .i64 t156, .int .i64 t157, .string t158, .string t159, .int .i64 t160] 23 (0, 0)) (by (with_reducible repeat (first | refine blk_drewN ?_ _ | refine blk_drew ?_ | refine blk_alloc ?_ _)); exact BK163.out) hb)
                                          have n6_ := Aside0.mk (blk_below (g := gb171) (o := .cells #[.int .i64 t164, .int .i64 t165, .string t166, .string t167, .int .i64 t168] 23 (0, 0)) (by (with_reducible repeat (first | refine blk_drewN ?_ _ | refine blk_drew ?_ | refine blk_alloc ?_ _)); exact BK171.out) hb)
                                          have n7_ := Aside0.mk (blk_below (g := gb179) (o := .cells #[.int .i64 t172, .int .i64 t173, .string t174, .string t175, .int .i64 t176] 23 (0, 0)) (by (with_reducible repeat (first | refine blk_drewN ?_ _ | refine blk_drew ?_ | refine blk_alloc ?_ _)); exact BK179.out) hb)
                                          have n8_ := Aside0.mk (below_step (by repeat (first | (with_reducible first | exact HB.out | apply below_alloc | apply pw_below_drewN | apply below_drew1 | refine below_set ?_ GE154.out | refine below_set ?_ GE163.out | refine below_set ?_ GE171.out | refine below_set ?_ GE179.out) | exact HB.out)) hb)
                                          clear HO184
                                          clear HO189
                                          clear HO194
                                          clear HO197
                                          clear BK154
                                          clear BK163
                                          clear BK171
                                          clear BK179
                                          clear HB
                                          have HO184 := n0_
                                          have HO189 := n1_
                                          have HO194 := n2_
                                          have HO197 := n3_
                                          have BK154 := n4_
                                          have BK163 := n5_
                                          have BK171 := n6_
                                          have BK179 := n7_
                                          have HB := n8_
                                          clear n0_ n1_ n2_ n3_ n4_ n5_ n6_ n7_ n8_
                                          (try clear hb)
                                          (try clear hb2)
                                          (try clear hk)
                                          (try clear hi)
                                          refine hK.out _ _ ⟨(blk_cell BK163.out 0).trans rfl, (blk_cell BK163.out 1).trans rfl, (blk_cell BK163.out 2).trans rfl, (blk_cell BK163.out 3).trans rfl, (blk_cell BK163.out 4).trans rfl, (blk_cell BK154.out 0).trans rfl, (blk_cell BK154.out 1).trans rfl, (blk_cell BK154.out 2).trans rfl, (blk_cell BK154.out 3).trans rfl, (blk_cell BK154.out 4).trans rfl⟩ (fun hHeld => ?_)
                                          clear hK K
                                          refine norm_ (a' := ?_) ?_ ?_
                                          rotate_left
                                          · show Act.put _ (some 132) _ = _
                                            simp only [Act.put, List.setIfInBounds_toArray, List.set_cons_zero, List.set_cons_succ, i64_w, i32_w]
                                            rfl
                                          refine one_ (i := 77) (N := some 133) #[true, true, true, true, true, true, true, true, true, true, true, true, true, true, true, true, true, true, true, true, true, true, true, true, true, true, true, true, true, true, true, true, true, true, true, true, true, true, true, true, true, true, true, true, true, true, true, true, true, true, true, true, true, true, true, true, true, true, true, true, true, true, true, true, true, true, true, true, true, true, true, true, true, true, true, true, true, true, false, false, false, false, false, false, false, false, false, false, false, false, false, false, false, false, false, false] rfl rfl (one_of HT_.out (by kernel_rfl)) (by decide) (fun K hK => ?_)
                                          refine goes_ Tryd.func19 (by kernel_rfl) rfl #[.agg #[.int .i64 1, .int .i64 2, .string (⟨#[97]⟩ : ByteArray), .string (⟨#[120]⟩ : ByteArray), .int .i64 3], .agg #[.int .i64 t216, .int .i64 t217, .string t218, .string t219, .int .i64 t220]] (by rfl) rfl rfl (by (try simp only [List.map_toArray, List.map_cons, List.map_nil]); first | done | rfl | (simp only [List.length_drop, List.length_take]; rfl)) ?_
                                          with_reducible refine (event_Same.calls 1 2 (⟨#[97]⟩ : ByteArray) (⟨#[120]⟩ : ByteArray) 3 t216 t217 t218 t219 t220 true _ A32.out).mono ?_
                                          rintro e w71 ⟨rfl, hb⟩
                                          refine ⟨_, rfl, ?_⟩
                                          have n0_ := Aside0.mk (Kd.R_below (by (with_reducible repeat (first | apply Kd.R_alloc | apply Kd.R_drewN | apply Kd.R_drew)); exact HO184.out) hb)
                                          have n1_ := Aside0.mk (Kd.R_below (by (with_reducible repeat (first | apply Kd.R_alloc | apply Kd.R_drewN | apply Kd.R_drew)); exact HO189.out) hb)
                                          have n2_ := Aside0.mk (Kd.R_below (by (with_reducible repeat (first | apply Kd.R_alloc | apply Kd.R_drewN | apply Kd.R_drew)); exact HO194.out) hb)
                                          have n3_ := Aside0.mk (Kd.R_below (by (with_reducible repeat (first | apply Kd.R_alloc | apply Kd.R_drewN | apply Kd.R_drew)); exact HO197.out) hb)
                                          have n4_ := Aside0.mk (blk_below (g := gb154) (o := .cells #[.int .i64 1, .int .i64 2, .string (⟨#[97]⟩ : ByteArray), .string (⟨#[120]⟩ : ByteArray), .int .i64 3] 23 (0, 0)) (by (with_reducible repeat (first | refine blk_drewN ?_ _ | refine blk_drew ?_ | refine blk_alloc ?_ _)); exact BK154.out) hb)
                                          have n5_ := Aside0.mk (blk_below (g := gb163) (o := .cells #[.int .i64 t156, .int .i64 t157, .string t158, .string t159, .int .i64 t160] 23 (0, 0)) (by (with_reducible repeat (first | refine blk_drewN ?_ _ | refine blk_drew ?_ | refine blk_alloc ?_ _)); exact BK163.out) hb)
                                          have n6_ := Aside0.mk (blk_below (g := gb171) (o := .cells #[.int .i64 t164, .int .i64 t165, .string t166, .string t167, .int .i64 t168] 23 (0, 0)) (by (with_reducible repeat (first | refine blk_drewN ?_ _ | refine blk_drew ?_ | refine blk_alloc ?_ _)); exact BK171.out) hb)
                                          have n7_ := Aside0.mk (blk_below (g := gb179) (o := .cells #[.int .i64 t172, .int .i64 t173, .string t174, .string t175, .int .i64 t176] 23 (0, 0)) (by (with_reducible repeat (first | refine blk_drewN ?_ _ | refine blk_drew ?_ | refine blk_alloc ?_ _)); exact BK179.out) hb)
                                          have n8_ := Aside0.mk (below_step (by repeat (first | (with_reducible first | exact HB.out | apply below_alloc | apply pw_below_drewN | apply below_drew1 | refine below_set ?_ GE154.out | refine below_set ?_ GE163.out | refine below_set ?_ GE171.out | refine below_set ?_ GE179.out) | exact HB.out)) hb)
                                          clear HO184
                                          clear HO189
                                          clear HO194
                                          clear HO197
                                          clear BK154
                                          clear BK163
                                          clear BK171
                                          clear BK179
                                          clear HB
                                          have HO184 := n0_
                                          have HO189 := n1_
                                          have HO194 := n2_
                                          have HO197 := n3_
                                          have BK154 := n4_
                                          have BK163 := n5_
                                          have BK171 := n6_
                                          have BK179 := n7_
                                          have HB := n8_
                                          clear n0_ n1_ n2_ n3_ n4_ n5_ n6_ n7_ n8_
                                          (try clear hb)
                                          (try clear hb2)
                                          (try clear hk)
                                          (try clear hi)
                                          refine hK.out _ _ ⟨(blk_cell BK163.out 0).trans rfl, (blk_cell BK163.out 1).trans rfl, (blk_cell BK163.out 2).trans rfl, (blk_cell BK163.out 3).trans rfl, (blk_cell BK163.out 4).trans rfl, (blk_cell BK154.out 0).trans rfl, (blk_cell BK154.out 1).trans rfl, (blk_cell BK154.out 2).trans rfl, (blk_cell BK154.out 3).trans rfl, (blk_cell BK154.out 4).trans rfl⟩ (fun hHeld => ?_)
                                          clear hK K
                                          refine norm_ (a' := ?_) ?_ ?_
                                          rotate_left
                                          · show Act.put _ (some 133) _ = _
                                            simp only [Act.put, List.setIfInBounds_toArray, List.set_cons_zero, List.set_cons_succ, i64_w, i32_w]
                                            rfl
                                          refine pure_ (i := 78) (N := some 134) (v := ?_) (a' := ?_) #[true, true, true, true, true, true, true, true, true, true, true, true, true, true, true, true, true, true, true, true, true, true, true, true, true, true, true, true, true, true, true, true, true, true, true, true, true, true, true, true, true, true, true, true, true, true, true, true, true, true, true, true, true, true, true, true, true, true, true, true, true, true, true, true, true, true, true, true, true, true, true, true, true, true, true, true, true, true, true, false, false, false, false, false, false, false, false, false, false, false, false, false, false, false, false, false] rfl rfl (any_of HT_.out (by kernel_rfl)) (fun _ _ _ h => h) (Or.inl ⟨by rfl, ?_⟩) ?_ ?_
                                          rotate_left
                                          · intro w'
                                            go_simp
                                            with_reducible rfl
                                          rotate_left
                                          · simp only [Act.put, List.setIfInBounds_toArray, List.set_cons_zero, List.set_cons_succ, i64_w, i32_w]
                                            rfl
                                          refine pure_ (i := 79) (N := some 135) (v := ?_) (a' := ?_) #[true, true, true, true, true, true, true, true, true, true, true, true, true, true, true, true, true, true, true, true, true, true, true, true, true, true, true, true, true, true, true, true, true, true, true, true, true, true, true, true, true, true, true, true, true, true, true, true, true, true, true, true, true, true, true, true, true, true, true, true, true, true, true, true, true, true, true, true, true, true, true, true, true, true, true, true, true, true, true, true, false, false, false, false, false, false, false, false, false, false, false, false, false, false, false, false] rfl rfl (any_of HT_.out (by kernel_rfl)) (fun _ _ _ h => h) (Or.inl ⟨by rfl, ?_⟩) ?_ ?_
                                          rotate_left
                                          · intro w'
                                            go_simp
                                            with_reducible rfl
                                          rotate_left
                                          · simp only [Act.put, List.setIfInBounds_toArray, List.set_cons_zero, List.set_cons_succ, i64_w, i32_w]
                                            rfl
                                          refine take_ (i := 80) (N := some 136) (v := ?_) (a' := ?_) #[true, true, true, true, true, true, true, true, true, true, true, true, true, true, true, true, true, true, true, true, true, true, true, true, true, true, true, true, true, true, true, true, true, true, true, true, true, true, true, true, true, true, true, true, true, true, true, true, true, true, true, true, true, true, true, true, true, true, true, true, true, true, true, true, true, true, true, true, true, true, true, true, true, true, true, true, true, true, true, true, true, false, false, false, false, false, false, false, false, false, false, false, false, false, false, false] rfl rfl (take_ofW HT_.out HW_.out (by kernel_rfl)) (fun _ _ _ h => h) (Or.inl ⟨by rfl, ?_⟩) hHeld ?_ ?_
                                          rotate_left
                                          · rintro w' ⟨s0, s1, s2, s3, s4, s5, s6, s7, s8, s9⟩
                                            go_simp
                                            with_reducible rfl
                                          rotate_left
                                          · simp only [Act.put, List.setIfInBounds_toArray, List.set_cons_zero, List.set_cons_succ, i64_w, i32_w]
                                            rfl
                                          refine one_ (i := 81) (N := some 137) #[true, true, true, true, true, true, true, true, true, true, true, true, true, true, true, true, true, true, true, true, true, true, true, true, true, true, true, true, true, true, true, true, true, true, true, true, true, true, true, true, true, true, true, true, true, true, true, true, true, true, true, true, true, true, true, true, true, true, true, true, true, true, true, true, true, true, true, true, true, true, true, true, true, true, true, true, true, true, true, true, true, true, false, false, false, false, false, false, false, false, false, false, false, false, false, false] rfl rfl (one_of HT_.out (by kernel_rfl)) (by decide) (fun K hK => ?_)
                                          refine goes_ Tryd.func15 (by kernel_rfl) rfl #[.agg #[.int .i64 1, .int .i64 2, .string (⟨#[97]⟩ : ByteArray), .string (⟨#[120]⟩ : ByteArray), .int .i64 3]] (by rfl) rfl rfl (by (try simp only [List.map_toArray, List.map_cons, List.map_nil]); first | done | rfl | (simp only [List.length_drop, List.length_take]; rfl)) ?_
                                          with_reducible refine (event_Show.calls 1 2 (⟨#[97]⟩ : ByteArray) (⟨#[120]⟩ : ByteArray) 3 t222 _ A34.out).mono ?_
                                          rintro e w72 ⟨rfl, hb⟩
                                          refine ⟨_, rfl, ?_⟩
                                          have n0_ := Aside0.mk (Kd.R_below (by (with_reducible repeat (first | apply Kd.R_alloc | apply Kd.R_drewN | apply Kd.R_drew)); exact HO184.out) hb)
                                          have n1_ := Aside0.mk (Kd.R_below (by (with_reducible repeat (first | apply Kd.R_alloc | apply Kd.R_drewN | apply Kd.R_drew)); exact HO189.out) hb)
                                          have n2_ := Aside0.mk (Kd.R_below (by (with_reducible repeat (first | apply Kd.R_alloc | apply Kd.R_drewN | apply Kd.R_drew)); exact HO194.out) hb)
                                          have n3_ := Aside0.mk (Kd.R_below (by (with_reducible repeat (first | apply Kd.R_alloc | apply Kd.R_drewN | apply Kd.R_drew)); exact HO197.out) hb)
                                          have n4_ := Aside0.mk (blk_below (g := gb154) (o := .cells #[.int .i64 1, .int .i64 2, .string (⟨#[97]⟩ : ByteArray), .string (⟨#[120]⟩ : ByteArray), .int .i64 3] 23 (0, 0)) (by (with_reducible repeat (first | refine blk_drewN ?_ _ | refine blk_drew ?_ | refine blk_alloc ?_ _)); exact BK154.out) hb)
                                          have n5_ := Aside0.mk (blk_below (g := gb163) (o := .cells #[.int .i64 t156, .int .i64 t157, .string t158, .string t159, .int .i64 t160] 23 (0, 0)) (by (with_reducible repeat (first | refine blk_drewN ?_ _ | refine blk_drew ?_ | refine blk_alloc ?_ _)); exact BK163.out) hb)
                                          have n6_ := Aside0.mk (blk_below (g := gb171) (o := .cells #[.int .i64 t164, .int .i64 t165, .string t166, .string t167, .int .i64 t168] 23 (0, 0)) (by (with_reducible repeat (first | refine blk_drewN ?_ _ | refine blk_drew ?_ | refine blk_alloc ?_ _)); exact BK171.out) hb)
                                          have n7_ := Aside0.mk (blk_below (g := gb179) (o := .cells #[.int .i64 t172, .int .i64 t173, .string t174, .string t175, .int .i64 t176] 23 (0, 0)) (by (with_reducible repeat (first | refine blk_drewN ?_ _ | refine blk_drew ?_ | refine blk_alloc ?_ _)); exact BK179.out) hb)
                                          have n8_ := Aside0.mk (below_step (by repeat (first | (with_reducible first | exact HB.out | apply below_alloc | apply pw_below_drewN | apply below_drew1 | refine below_set ?_ GE154.out | refine below_set ?_ GE163.out | refine below_set ?_ GE171.out | refine below_set ?_ GE179.out) | exact HB.out)) hb)
                                          clear HO184
                                          clear HO189
                                          clear HO194
                                          clear HO197
                                          clear BK154
                                          clear BK163
                                          clear BK171
                                          clear BK179
                                          clear HB
                                          have HO184 := n0_
                                          have HO189 := n1_
                                          have HO194 := n2_
                                          have HO197 := n3_
                                          have BK154 := n4_
                                          have BK163 := n5_
                                          have BK171 := n6_
                                          have BK179 := n7_
                                          have HB := n8_
                                          clear n0_ n1_ n2_ n3_ n4_ n5_ n6_ n7_ n8_
                                          (try clear hb)
                                          (try clear hb2)
                                          (try clear hk)
                                          (try clear hi)
                                          refine hK.out _ _ ⟨(blk_cell BK163.out 0).trans rfl, (blk_cell BK163.out 1).trans rfl, (blk_cell BK163.out 2).trans rfl, (blk_cell BK163.out 3).trans rfl, (blk_cell BK163.out 4).trans rfl, (blk_cell BK154.out 0).trans rfl, (blk_cell BK154.out 1).trans rfl, (blk_cell BK154.out 2).trans rfl, (blk_cell BK154.out 3).trans rfl, (blk_cell BK154.out 4).trans rfl⟩ (fun hHeld => ?_)
                                          clear hK K
                                          refine norm_ (a' := ?_) ?_ ?_
                                          rotate_left
                                          · show Act.put _ (some 137) _ = _
                                            simp only [Act.put, List.setIfInBounds_toArray, List.set_cons_zero, List.set_cons_succ, i64_w, i32_w]
                                            rfl
                                          refine pure_ (i := 82) (N := some 138) (v := ?_) (a' := ?_) #[true, true, true, true, true, true, true, true, true, true, true, true, true, true, true, true, true, true, true, true, true, true, true, true, true, true, true, true, true, true, true, true, true, true, true, true, true, true, true, true, true, true, true, true, true, true, true, true, true, true, true, true, true, true, true, true, true, true, true, true, true, true, true, true, true, true, true, true, true, true, true, true, true, true, true, true, true, true, true, true, true, true, true, false, false, false, false, false, false, false, false, false, false, false, false, false] rfl rfl (any_of HT_.out (by kernel_rfl)) (fun _ _ _ h => h) (Or.inl ⟨by rfl, ?_⟩) ?_ ?_
                                          rotate_left
                                          · intro w'
                                            go_simp
                                            with_reducible rfl
                                          rotate_left
                                          · simp only [Act.put, List.setIfInBounds_toArray, List.set_cons_zero, List.set_cons_succ, i64_w, i32_w]
                                            rfl
                                          refine pure_ (i := 83) (N := some 139) (v := ?_) (a' := ?_) #[true, true, true, true, true, true, true, true, true, true, true, true, true, true, true, true, true, true, true, true, true, true, true, true, true, true, true, true, true, true, true, true, true, true, true, true, true, true, true, true, true, true, true, true, true, true, true, true, true, true, true, true, true, true, true, true, true, true, true, true, true, true, true, true, true, true, true, true, true, true, true, true, true, true, true, true, true, true, true, true, true, true, true, true, false, false, false, false, false, false, false, false, false, false, false, false] rfl rfl (any_of HT_.out (by kernel_rfl)) (fun _ _ _ h => h) (Or.inl ⟨by rfl, ?_⟩) ?_ ?_
                                          rotate_left
                                          · intro w'
                                            go_simp
                                            with_reducible rfl
                                          rotate_left
                                          · simp only [Act.put, List.setIfInBounds_toArray, List.set_cons_zero, List.set_cons_succ, i64_w, i32_w]
                                            rfl
                                          refine pure_ (i := 84) (N := some 140) (v := ?_) (a' := ?_) #[true, true, true, true, true, true, true, true, true, true, true, true, true, true, true, true, true, true, true, true, true, true, true, true, true, true, true, true, true, true, true, true, true, true, true, true, true, true, true, true, true, true, true, true, true, true, true, true, true, true, true, true, true, true, true, true, true, true, true, true, true, true, true, true, true, true, true, true, true, true, true, true, true, true, true, true, true, true, true, true, true, true, true, true, true, false, false, false, false, false, false, false, false, false, false, false] rfl rfl (any_of HT_.out (by kernel_rfl)) (fun _ _ _ h => h) (Or.inl ⟨by rfl, ?_⟩) ?_ ?_
                                          rotate_left
                                          · intro w'
                                            go_simp
                                            with_reducible rfl
                                          rotate_left
                                          · simp only [Act.put, List.setIfInBounds_toArray, List.set_cons_zero, List.set_cons_succ, i64_w, i32_w]
                                            rfl
                                          refine pure_ (i := 85) (N := some 141) (v := ?_) (a' := ?_) #[true, true, true, true, true, true, true, true, true, true, true, true, true, true, true, true, true, true, true, true, true, true, true, true, true, true, true, true, true, true, true, true, true, true, true, true, true, true, true, true, true, true, true, true, true, true, true, true, true, true, true, true, true, true, true, true, true, true, true, true, true, true, true, true, true, true, true, true, true, true, true, true, true, true, true, true, true, true, true, true, true, true, true, true, true, true, false, false, false, false, false, false, false, false, false, false] rfl rfl (any_of HT_.out (by kernel_rfl)) (fun _ _ _ h => h) (Or.inl ⟨by rfl, ?_⟩) ?_ ?_
                                          rotate_left
                                          · intro w'
                                            go_simp
                                            with_reducible rfl
                                          rotate_left
                                          · simp only [Act.put, List.setIfInBounds_toArray, List.set_cons_zero, List.set_cons_succ, i64_w, i32_w]
                                            rfl
                                          refine one_ (i := 86) (N := some 142) #[true, true, true, true, true, true, true, true, true, true, true, true, true, true, true, true, true, true, true, true, true, true, true, true, true, true, true, true, true, true, true, true, true, true, true, true, true, true, true, true, true, true, true, true, true, true, true, true, true, true, true, true, true, true, true, true, true, true, true, true, true, true, true, true, true, true, true, true, true, true, true, true, true, true, true, true, true, true, true, true, true, true, true, true, true, true, true, false, false, false, false, false, false, false, false, false] rfl rfl (one_of HT_.out (by kernel_rfl)) (by decide) (fun K hK => ?_)
                                          refine goes_ Tryd.func29 (by kernel_rfl) rfl #[.slice Ao63 t180.length co63] (by rfl) rfl rfl (by (try simp only [List.map_toArray, List.map_cons, List.map_nil]); first | done | rfl | (simp only [List.length_drop, List.length_take]; rfl)) ?_
                                          with_reducible refine (event_Marks.calls _ _ t180 t223 _ ?side1 ?side2 A36.out).mono ?_
                                          (case side1 => repeat (first | exact (Kd.R_reads' HO184.out).2.2 | (with_reducible refine Kd.C_alloc ?_ _) | (with_reducible refine Kd.C_drewN ?_ _) | (with_reducible refine Kd.C_drew ?_)))
                                          (case side2 => exact (Kd.R_reads' HO184.out).2.1)
                                          rintro e w73 ⟨rfl, hb⟩
                                          refine ⟨_, rfl, ?_⟩
                                          have n0_ := Aside0.mk (Kd.R_below (by (with_reducible repeat (first | apply Kd.R_alloc | apply Kd.R_drewN | apply Kd.R_drew)); exact HO184.out) hb)
                                          have n1_ := Aside0.mk (Kd.R_below (by (with_reducible repeat (first | apply Kd.R_alloc | apply Kd.R_drewN | apply Kd.R_drew)); exact HO189.out) hb)
                                          have n2_ := Aside0.mk (Kd.R_below (by (with_reducible repeat (first | apply Kd.R_alloc | apply Kd.R_drewN | apply Kd.R_drew)); exact HO194.out) hb)
                                          have n3_ := Aside0.mk (Kd.R_below (by (with_reducible repeat (first | apply Kd.R_alloc | apply Kd.R_drewN | apply Kd.R_drew)); exact HO197.out) hb)
                                          have n4_ := Aside0.mk (blk_below (g := gb154) (o := .cells #[.int .i64 1, .int .i64 2, .string (⟨#[97]⟩ : ByteArray), .string (⟨#[120]⟩ : ByteArray), .int .i64 3] 23 (0, 0)) (by (with_reducible repeat (first | refine blk_drewN ?_ _ | refine blk_drew ?_ | refine blk_alloc ?_ _)); exact BK154.out) hb)
                                          have n5_ := Aside0.mk (blk_below (g := gb163) (o := .cells #[.int .i64 t156, .int .i64 t157, .string t158, .string t159, .int .i64 t160] 23 (0, 0)) (by (with_reducible repeat (first | refine blk_drewN ?_ _ | refine blk_drew ?_ | refine blk_alloc ?_ _)); exact BK163.out) hb)
                                          have n6_ := Aside0.mk (blk_below (g := gb171) (o := .cells #[.int .i64 t164, .int .i64 t165, .string t166, .string t167, .int .i64 t168] 23 (0, 0)) (by (with_reducible repeat (first | refine blk_drewN ?_ _ | refine blk_drew ?_ | refine blk_alloc ?_ _)); exact BK171.out) hb)
                                          have n7_ := Aside0.mk (blk_below (g := gb179) (o := .cells #[.int .i64 t172, .int .i64 t173, .string t174, .string t175, .int .i64 t176] 23 (0, 0)) (by (with_reducible repeat (first | refine blk_drewN ?_ _ | refine blk_drew ?_ | refine blk_alloc ?_ _)); exact BK179.out) hb)
                                          have n8_ := Aside0.mk (below_step (by repeat (first | (with_reducible first | exact HB.out | apply below_alloc | apply pw_below_drewN | apply below_drew1 | refine below_set ?_ GE154.out | refine below_set ?_ GE163.out | refine below_set ?_ GE171.out | refine below_set ?_ GE179.out) | exact HB.out)) hb)
                                          clear HO184
                                          clear HO189
                                          clear HO194
                                          clear HO197
                                          clear BK154
                                          clear BK163
                                          clear BK171
                                          clear BK179
                                          clear HB
                                          have HO184 := n0_
                                          have HO189 := n1_
                                          have HO194 := n2_
                                          have HO197 := n3_
                                          have BK154 := n4_
                                          have BK163 := n5_
                                          have BK171 := n6_
                                          have BK179 := n7_
                                          have HB := n8_
                                          clear n0_ n1_ n2_ n3_ n4_ n5_ n6_ n7_ n8_
                                          (try clear hb)
                                          (try clear hb2)
                                          (try clear hk)
                                          (try clear hi)
                                          refine hK.out _ _ ⟨(blk_cell BK163.out 0).trans rfl, (blk_cell BK163.out 1).trans rfl, (blk_cell BK163.out 2).trans rfl, (blk_cell BK163.out 3).trans rfl, (blk_cell BK163.out 4).trans rfl, (blk_cell BK154.out 0).trans rfl, (blk_cell BK154.out 1).trans rfl, (blk_cell BK154.out 2).trans rfl, (blk_cell BK154.out 3).trans rfl, (blk_cell BK154.out 4).trans rfl⟩ (fun hHeld => ?_)
                                          clear hK K
                                          refine norm_ (a' := ?_) ?_ ?_
                                          rotate_left
                                          · show Act.put _ (some 142) _ = _
                                            simp only [Act.put, List.setIfInBounds_toArray, List.set_cons_zero, List.set_cons_succ, i64_w, i32_w]
                                            rfl
                                          refine pure_ (i := 87) (N := some 143) (v := ?_) (a' := ?_) #[true, true, true, true, true, true, true, true, true, true, true, true, true, true, true, true, true, true, true, true, true, true, true, true, true, true, true, true, true, true, true, true, true, true, true, true, true, true, true, true, true, true, true, true, true, true, true, true, true, true, true, true, true, true, true, true, true, true, true, true, true, true, true, true, true, true, true, true, true, true, true, true, true, true, true, true, true, true, true, true, true, true, true, true, true, true, true, true, false, false, false, false, false, false, false, false] rfl rfl (any_of HT_.out (by kernel_rfl)) (fun _ _ _ h => h) (Or.inl ⟨by rfl, ?_⟩) ?_ ?_
                                          rotate_left
                                          · intro w'
                                            go_simp
                                            with_reducible rfl
                                          rotate_left
                                          · simp only [Act.put, List.setIfInBounds_toArray, List.set_cons_zero, List.set_cons_succ, i64_w, i32_w]
                                            rfl
                                          refine pure_ (i := 88) (N := some 144) (v := ?_) (a' := ?_) #[true, true, true, true, true, true, true, true, true, true, true, true, true, true, true, true, true, true, true, true, true, true, true, true, true, true, true, true, true, true, true, true, true, true, true, true, true, true, true, true, true, true, true, true, true, true, true, true, true, true, true, true, true, true, true, true, true, true, true, true, true, true, true, true, true, true, true, true, true, true, true, true, true, true, true, true, true, true, true, true, true, true, true, true, true, true, true, true, true, false, false, false, false, false, false, false] rfl rfl (any_of HT_.out (by kernel_rfl)) (fun _ _ _ h => h) (Or.inl ⟨by rfl, ?_⟩) ?_ ?_
                                          rotate_left
                                          · intro w'
                                            go_simp
                                            with_reducible rfl
                                          rotate_left
                                          · simp only [Act.put, List.setIfInBounds_toArray, List.set_cons_zero, List.set_cons_succ, i64_w, i32_w]
                                            rfl
                                          refine pure_ (i := 89) (N := some 145) (v := ?_) (a' := ?_) #[true, true, true, true, true, true, true, true, true, true, true, true, true, true, true, true, true, true, true, true, true, true, true, true, true, true, true, true, true, true, true, true, true, true, true, true, true, true, true, true, true, true, true, true, true, true, true, true, true, true, true, true, true, true, true, true, true, true, true, true, true, true, true, true, true, true, true, true, true, true, true, true, true, true, true, true, true, true, true, true, true, true, true, true, true, true, true, true, true, true, false, false, false, false, false, false] rfl rfl (any_of HT_.out (by kernel_rfl)) (fun _ _ _ h => h) (Or.inl ⟨by rfl, ?_⟩) ?_ ?_
                                          rotate_left
                                          · intro w'
                                            go_simp
                                            with_reducible rfl
                                          rotate_left
                                          · simp only [Act.put, List.setIfInBounds_toArray, List.set_cons_zero, List.set_cons_succ, i64_w, i32_w]
                                            rfl
                                          refine pure_ (i := 90) (N := some 146) (v := ?_) (a' := ?_) #[true, true, true, true, true, true, true, true, true, true, true, true, true, true, true, true, true, true, true, true, true, true, true, true, true, true, true, true, true, true, true, true, true, true, true, true, true, true, true, true, true, true, true, true, true, true, true, true, true, true, true, true, true, true, true, true, true, true, true, true, true, true, true, true, true, true, true, true, true, true, true, true, true, true, true, true, true, true, true, true, true, true, true, true, true, true, true, true, true, true, true, false, false, false, false, false] rfl rfl (any_of HT_.out (by kernel_rfl)) (fun _ _ _ h => h) (Or.inl ⟨by rfl, ?_⟩) ?_ ?_
                                          rotate_left
                                          · intro w'
                                            go_simp
                                            with_reducible rfl
                                          rotate_left
                                          · simp only [Act.put, List.setIfInBounds_toArray, List.set_cons_zero, List.set_cons_succ, i64_w, i32_w]
                                            rfl
                                          refine one_ (i := 91) (N := some 147) #[true, true, true, true, true, true, true, true, true, true, true, true, true, true, true, true, true, true, true, true, true, true, true, true, true, true, true, true, true, true, true, true, true, true, true, true, true, true, true, true, true, true, true, true, true, true, true, true, true, true, true, true, true, true, true, true, true, true, true, true, true, true, true, true, true, true, true, true, true, true, true, true, true, true, true, true, true, true, true, true, true, true, true, true, true, true, true, true, true, true, true, true, false, false, false, false] rfl rfl (one_of HT_.out (by kernel_rfl)) (by decide) (fun K hK => ?_)
                                          refine Kd.R_lit_step k55 _ 55 ?hg (N := 147) ?hd (xs := ([(⟨0, 0⟩ : S55)] : List (S55))) (inner := [.int .i64 0, .int .i64 0]) (ok := fun _ => True) (okp := fun _ => True) ?hr ?hp (fun _ hk => hk) trivial (Below.refl _ _) (Nat.le_refl _) (by simp) ?_; (case hd => rfl); (case hg => rfl); (case hr => first | (go_simp; done) | (go_simp; rfl)); (case hp => exact (Reps.c2 (show Kd.M k55 _ _ _ (⟨0, 0⟩ : S55) [.int .i64 0, .int .i64 0] from (k55_mkM _ _ _ (⟨0, 0⟩ : S55) )) (Reps.none _ _)))
                                          intro v225 w74 ho75 hb hg_ hnew_
                                          clear hg_ hnew_
                                          (first | rw [← Ny224.out] at ho75 | (simp only [Int.reduceToNat] at ho75; rw [← Ny224.out] at ho75))
                                          have n0_ := Aside0.mk (Kd.R_elder' (by (with_reducible repeat (first | apply Kd.R_alloc | apply Kd.R_drewN | apply Kd.R_drew)); exact HO184.out) (Kd.R_base ho75) hb)
                                          have n1_ := Aside0.mk (Kd.R_elder' (by (with_reducible repeat (first | apply Kd.R_alloc | apply Kd.R_drewN | apply Kd.R_drew)); exact HO189.out) (Kd.R_base ho75) hb)
                                          have n2_ := Aside0.mk (Kd.R_elder' (by (with_reducible repeat (first | apply Kd.R_alloc | apply Kd.R_drewN | apply Kd.R_drew)); exact HO194.out) (Kd.R_base ho75) hb)
                                          have n3_ := Aside0.mk (Kd.R_elder' (by (with_reducible repeat (first | apply Kd.R_alloc | apply Kd.R_drewN | apply Kd.R_drew)); exact HO197.out) (Kd.R_base ho75) hb)
                                          have n4_ := Aside0.mk (Kd.R_lower (Kd.R_new' (Kd.R_new' (Kd.R_new' (Kd.R_new' ho75 (Kd.R_lt (by (with_reducible repeat (first | apply Kd.R_alloc | apply Kd.R_drewN | apply Kd.R_drew)); exact HO184.out))) (Kd.R_lt (by (with_reducible repeat (first | apply Kd.R_alloc | apply Kd.R_drewN | apply Kd.R_drew)); exact HO189.out))) (Kd.R_lt (by (with_reducible repeat (first | apply Kd.R_alloc | apply Kd.R_drewN | apply Kd.R_drew)); exact HO194.out))) (Kd.R_lt (by (with_reducible repeat (first | apply Kd.R_alloc | apply Kd.R_drewN | apply Kd.R_drew)); exact HO197.out))) (below_size (by repeat (first | (with_reducible first | exact HB.out | apply below_alloc | apply pw_below_drewN | apply below_drew1 | refine below_set ?_ GE154.out | refine below_set ?_ GE163.out | refine below_set ?_ GE171.out | refine below_set ?_ GE179.out) | exact HB.out))))
                                          have n5_ := Aside0.mk (blk_below (g := gb154) (o := .cells #[.int .i64 1, .int .i64 2, .string (⟨#[97]⟩ : ByteArray), .string (⟨#[120]⟩ : ByteArray), .int .i64 3] 23 (0, 0)) (by (with_reducible repeat (first | refine blk_drewN ?_ _ | refine blk_drew ?_ | refine blk_alloc ?_ _)); exact BK154.out) hb)
                                          have n6_ := Aside0.mk (blk_below (g := gb163) (o := .cells #[.int .i64 t156, .int .i64 t157, .string t158, .string t159, .int .i64 t160] 23 (0, 0)) (by (with_reducible repeat (first | refine blk_drewN ?_ _ | refine blk_drew ?_ | refine blk_alloc ?_ _)); exact BK163.out) hb)
                                          have n7_ := Aside0.mk (blk_below (g := gb171) (o := .cells #[.int .i64 t164, .int .i64 t165, .string t166, .string t167, .int .i64 t168] 23 (0, 0)) (by (with_reducible repeat (first | refine blk_drewN ?_ _ | refine blk_drew ?_ | refine blk_alloc ?_ _)); exact BK171.out) hb)
                                          have n8_ := Aside0.mk (blk_below (g := gb179) (o := .cells #[.int .i64 t172, .int .i64 t173, .string t174, .string t175, .int .i64 t176] 23 (0, 0)) (by (with_reducible repeat (first | refine blk_drewN ?_ _ | refine blk_drew ?_ | refine blk_alloc ?_ _)); exact BK179.out) hb)
                                          have n9_ := Aside0.mk (below_step (by repeat (first | (with_reducible first | exact HB.out | apply below_alloc | apply pw_below_drewN | apply below_drew1 | refine below_set ?_ GE154.out | refine below_set ?_ GE163.out | refine below_set ?_ GE171.out | refine below_set ?_ GE179.out) | exact HB.out)) hb)
                                          clear HO184
                                          clear HO189
                                          clear HO194
                                          clear HO197
                                          clear BK154
                                          clear BK163
                                          clear BK171
                                          clear BK179
                                          clear HB
                                          have HO184 := n0_
                                          have HO189 := n1_
                                          have HO194 := n2_
                                          have HO197 := n3_
                                          have HO226 := n4_
                                          have BK154 := n5_
                                          have BK163 := n6_
                                          have BK171 := n7_
                                          have BK179 := n8_
                                          have HB := n9_
                                          clear n0_ n1_ n2_ n3_ n4_ n5_ n6_ n7_ n8_ n9_
                                          clear hb ho75
                                          obtain ⟨Ao76, co76, eo76⟩ := Kd.R_slice HO226.out
                                          (first | subst eo76 | (injection eo76 with f1_ f2_ f3_; have f4_ := f1_.symm; have f5_ := f3_.symm; clear f1_ f2_ f3_; subst f4_; subst f5_))
                                          refine hK.out _ _ ⟨(blk_cell BK163.out 0).trans rfl, (blk_cell BK163.out 1).trans rfl, (blk_cell BK163.out 2).trans rfl, (blk_cell BK163.out 3).trans rfl, (blk_cell BK163.out 4).trans rfl, (blk_cell BK154.out 0).trans rfl, (blk_cell BK154.out 1).trans rfl, (blk_cell BK154.out 2).trans rfl, (blk_cell BK154.out 3).trans rfl, (blk_cell BK154.out 4).trans rfl⟩ (fun hHeld => ?_)
                                          clear hK K
                                          refine norm_ (a' := ?_) ?_ ?_
                                          rotate_left
                                          · show Act.put _ (some 147) _ = _
                                            simp only [Act.put, List.setIfInBounds_toArray, List.set_cons_zero, List.set_cons_succ, i64_w, i32_w]
                                            rfl
                                          refine one_ (i := 92) (N := some 148) #[true, true, true, true, true, true, true, true, true, true, true, true, true, true, true, true, true, true, true, true, true, true, true, true, true, true, true, true, true, true, true, true, true, true, true, true, true, true, true, true, true, true, true, true, true, true, true, true, true, true, true, true, true, true, true, true, true, true, true, true, true, true, true, true, true, true, true, true, true, true, true, true, true, true, true, true, true, true, true, true, true, true, true, true, true, true, true, true, true, true, true, true, true, false, false, false] rfl rfl (one_of HT_.out (by kernel_rfl)) (by decide) (fun K hK => ?_)
                                          refine goes_ Tryd.func27 (by kernel_rfl) rfl #[.slice Ao76 y224.length co76] (by rfl) rfl rfl (by (try simp only [List.map_toArray, List.map_cons, List.map_nil]); first | done | rfl | (simp only [List.length_drop, List.length_take]; rfl)) ?_
                                          with_reducible refine (event_Sorted.calls _ _ y224 t227 _ ?side1 ?side2 A38.out).mono ?_
                                          (case side1 => repeat (first | exact (Kd.R_reads' HO226.out).2.2 | (with_reducible refine Kd.C_alloc ?_ _) | (with_reducible refine Kd.C_drewN ?_ _) | (with_reducible refine Kd.C_drew ?_)))
                                          (case side2 => exact (Kd.R_reads' HO226.out).2.1)
                                          rintro e w77 ⟨rfl, hb⟩
                                          refine ⟨_, rfl, ?_⟩
                                          have n0_ := Aside0.mk (Kd.R_below (by (with_reducible repeat (first | apply Kd.R_alloc | apply Kd.R_drewN | apply Kd.R_drew)); exact HO184.out) hb)
                                          have n1_ := Aside0.mk (Kd.R_below (by (with_reducible repeat (first | apply Kd.R_alloc | apply Kd.R_drewN | apply Kd.R_drew)); exact HO189.out) hb)
                                          have n2_ := Aside0.mk (Kd.R_below (by (with_reducible repeat (first | apply Kd.R_alloc | apply Kd.R_drewN | apply Kd.R_drew)); exact HO194.out) hb)
                                          have n3_ := Aside0.mk (Kd.R_below (by (with_reducible repeat (first | apply Kd.R_alloc | apply Kd.R_drewN | apply Kd.R_drew)); exact HO197.out) hb)
                                          have n4_ := Aside0.mk (Kd.R_below (by (with_reducible repeat (first | apply Kd.R_alloc | apply Kd.R_drewN | apply Kd.R_drew)); exact HO226.out) hb)
                                          have n5_ := Aside0.mk (blk_below (g := gb154) (o := .cells #[.int .i64 1, .int .i64 2, .string (⟨#[97]⟩ : ByteArray), .string (⟨#[120]⟩ : ByteArray), .int .i64 3] 23 (0, 0)) (by (with_reducible repeat (first | refine blk_drewN ?_ _ | refine blk_drew ?_ | refine blk_alloc ?_ _)); exact BK154.out) hb)
                                          have n6_ := Aside0.mk (blk_below (g := gb163) (o := .cells #[.int .i64 t156, .int .i64 t157, .string t158, .string t159, .int .i64 t160] 23 (0, 0)) (by (with_reducible repeat (first | refine blk_drewN ?_ _ | refine blk_drew ?_ | refine blk_alloc ?_ _)); exact BK163.out) hb)
                                          have n7_ := Aside0.mk (blk_below (g := gb171) (o := .cells #[.int .i64 t164, .int .i64 t165, .string t166, .string t167, .int .i64 t168] 23 (0, 0)) (by (with_reducible repeat (first | refine blk_drewN ?_ _ | refine blk_drew ?_ | refine blk_alloc ?_ _)); exact BK171.out) hb)
                                          have n8_ := Aside0.mk (blk_below (g := gb179) (o := .cells #[.int .i64 t172, .int .i64 t173, .string t174, .string t175, .int .i64 t176] 23 (0, 0)) (by (with_reducible repeat (first | refine blk_drewN ?_ _ | refine blk_drew ?_ | refine blk_alloc ?_ _)); exact BK179.out) hb)
                                          have n9_ := Aside0.mk (below_step (by repeat (first | (with_reducible first | exact HB.out | apply below_alloc | apply pw_below_drewN | apply below_drew1 | refine below_set ?_ GE154.out | refine below_set ?_ GE163.out | refine below_set ?_ GE171.out | refine below_set ?_ GE179.out) | exact HB.out)) hb)
                                          clear HO184
                                          clear HO189
                                          clear HO194
                                          clear HO197
                                          clear HO226
                                          clear BK154
                                          clear BK163
                                          clear BK171
                                          clear BK179
                                          clear HB
                                          have HO184 := n0_
                                          have HO189 := n1_
                                          have HO194 := n2_
                                          have HO197 := n3_
                                          have HO226 := n4_
                                          have BK154 := n5_
                                          have BK163 := n6_
                                          have BK171 := n7_
                                          have BK179 := n8_
                                          have HB := n9_
                                          clear n0_ n1_ n2_ n3_ n4_ n5_ n6_ n7_ n8_ n9_
                                          (try clear hb)
                                          (try clear hb2)
                                          (try clear hk)
                                          (try clear hi)
                                          refine hK.out _ _ ⟨(blk_cell BK163.out 0).trans rfl, (blk_cell BK163.out 1).trans rfl, (blk_cell BK163.out 2).trans rfl, (blk_cell BK163.out 3).trans rfl, (blk_cell BK163.out 4).trans rfl, (blk_cell BK154.out 0).trans rfl, (blk_cell BK154.out 1).trans rfl, (blk_cell BK154.out 2).trans rfl, (blk_cell BK154.out 3).trans rfl, (blk_cell BK154.out 4).trans rfl⟩ (fun hHeld => ?_)
                                          clear hK K
                                          refine norm_ (a' := ?_) ?_ ?_
                                          rotate_left
                                          · show Act.put _ (some 148) _ = _
                                            simp only [Act.put, List.setIfInBounds_toArray, List.set_cons_zero, List.set_cons_succ, i64_w, i32_w]
                                            rfl
                                          refine pure_ (i := 93) (N := some 149) (v := ?_) (a' := ?_) #[true, true, true, true, true, true, true, true, true, true, true, true, true, true, true, true, true, true, true, true, true, true, true, true, true, true, true, true, true, true, true, true, true, true, true, true, true, true, true, true, true, true, true, true, true, true, true, true, true, true, true, true, true, true, true, true, true, true, true, true, true, true, true, true, true, true, true, true, true, true, true, true, true, true, true, true, true, true, true, true, true, true, true, true, true, true, true, true, true, true, true, true, true, true, false, false] rfl rfl (any_of HT_.out (by kernel_rfl)) (fun _ _ _ h => h) (Or.inl ⟨by rfl, ?_⟩) ?_ ?_
                                          rotate_left
                                          · intro w'
                                            go_simp
                                            with_reducible rfl
                                          rotate_left
                                          · simp only [Act.put, List.setIfInBounds_toArray, List.set_cons_zero, List.set_cons_succ, i64_w, i32_w]
                                            rfl
                                          refine pure_ (i := 94) (N := some 150) (v := ?_) (a' := ?_) #[true, true, true, true, true, true, true, true, true, true, true, true, true, true, true, true, true, true, true, true, true, true, true, true, true, true, true, true, true, true, true, true, true, true, true, true, true, true, true, true, true, true, true, true, true, true, true, true, true, true, true, true, true, true, true, true, true, true, true, true, true, true, true, true, true, true, true, true, true, true, true, true, true, true, true, true, true, true, true, true, true, true, true, true, true, true, true, true, true, true, true, true, true, true, true, false] rfl rfl (any_of HT_.out (by kernel_rfl)) (fun _ _ _ h => h) (Or.inl ⟨by rfl, ?_⟩) ?_ ?_
                                          rotate_left
                                          · intro w'
                                            go_simp
                                            with_reducible rfl
                                          rotate_left
                                          · simp only [Act.put, List.setIfInBounds_toArray, List.set_cons_zero, List.set_cons_succ, i64_w, i32_w]
                                            rfl
                                          refine pure_ (i := 95) (N := some 0) (v := ?_) (a' := ?_) #[true, true, true, true, true, true, true, true, true, true, true, true, true, true, true, true, true, true, true, true, true, true, true, true, true, true, true, true, true, true, true, true, true, true, true, true, true, true, true, true, true, true, true, true, true, true, true, true, true, true, true, true, true, true, true, true, true, true, true, true, true, true, true, true, true, true, true, true, true, true, true, true, true, true, true, true, true, true, true, true, true, true, true, true, true, true, true, true, true, true, true, true, true, true, true, true] rfl rfl (any_of HT_.out (by kernel_rfl)) (fun _ _ _ h => h) (Or.inl ⟨by rfl, ?_⟩) ?_ ?_
                                          rotate_left
                                          · intro w'
                                            go_simp
                                            with_reducible rfl
                                          rotate_left
                                          · simp only [Act.put, List.setIfInBounds_toArray, List.set_cons_zero, List.set_cons_succ, i64_w, i32_w]
                                            rfl
                                          refine done_ (done_of HT_.out (by kernel_rfl)) ?_
                                          try go_wp2
                                          go_ret
                                          exact ⟨by first | rfl | (simp [errW_none, errW_some] <;> rfl) | (simp [*, errW_none, errW_some] <;> rfl), by repeat (first | (with_reducible first | exact HB.out | apply below_alloc | apply pw_below_drewN | apply below_drew1 | refine below_set ?_ GE154.out | refine below_set ?_ GE163.out | refine below_set ?_ GE171.out | refine below_set ?_ GE179.out) | exact HB.out)⟩
                                        · rw [if_neg c37] at H
                                          have c37b0 : (t223.toList == ([2, 0, 5, 3, 1] : List UInt8)) = false := beq_eq_false_iff_ne.mpr c37
                                          have c37b1 : (t223.toList != ([2, 0, 5, 3, 1] : List UInt8)) = true := bne_iff_ne.mpr c37
                                          exact absurd (Option.some.inj H) (by rw [hr_.out]; decide)
                                      · rw [if_neg c35] at H
                                        have c35b0 : (t222.toList == ([49, 58, 50, 32, 97, 32, 49, 32, 51] : List UInt8)) = false := beq_eq_false_iff_ne.mpr c35
                                        have c35b1 : (t222.toList != ([49, 58, 50, 32, 97, 32, 49, 32, 51] : List UInt8)) = true := bne_iff_ne.mpr c35
                                        exact absurd (Option.some.inj H) (by rw [hr_.out]; decide)
                                    · replace c33 := Bool.eq_false_iff.mpr c33
                                      subst c33
                                      have H1 : (some false) = some r := by rw [if_neg (show ¬ (false = true) by decide)] at H; exact H
                                      clear H
                                      have H := H1
                                      clear H1
                                      exact absurd (Option.some.inj H) (by rw [hr_.out]; decide)
                                  · rw [if_neg c30] at H
                                    have c30b0 : (t211 == 1 && (t212 == 2 && (t213.toList == ([97] : List UInt8) && (t214.toList == ([120] : List UInt8) && (t215 == 3))))) = false := by simpa using c30
                                    (try (have c30b1 : decide (t211 = 1 && (t212 == 2 && (t213.toList == ([97] : List UInt8) && (t214.toList == ([120] : List UInt8) && (t215 == 3))))) = false := by simpa using c30))
                                    (try (have c30b2 : (t211 == 1 && (t212 == 2 && (t213.toList == ([97] : List UInt8) && (t214.toList == ([120] : List UInt8) && (t215 == 3))))) = false := by simpa using c30))
                                    (try (have c30b3 : ¬ (t211 = 1 && (t212 == 2 && (t213.toList == ([97] : List UInt8) && (t214.toList == ([120] : List UInt8) && (t215 == 3))))) := by simpa using c30))
                                    clear c30
                                    exact absurd (Option.some.inj H) (by rw [hr_.out]; decide)
                                · rw [if_neg c28] at H
                                  have c28b0 : (t210 == 0) = false := beq_eq_false_iff_ne.mpr c28
                                  have c28b1 : (t210 != 0) = true := bne_iff_ne.mpr c28
                                  exact absurd (Option.some.inj H) (by rw [hr_.out]; decide)
                              · rw [if_neg c26] at H
                                have c26b0 : (t205 == 1) = false := beq_eq_false_iff_ne.mpr c26
                                have c26b1 : (t205 != 1) = true := bne_iff_ne.mpr c26
                                exact absurd (Option.some.inj H) (by rw [hr_.out]; decide)
                          · replace c22 := Bool.eq_false_iff.mpr c22
                            subst c22
                            have H1 : (some false) = some r := by rw [if_neg (show ¬ (false = true) by decide)] at H; exact H
                            clear H
                            have H := H1
                            clear H1
                            exact absurd (Option.some.inj H) (by rw [hr_.out]; decide)
                        · rw [if_neg c20] at H
                          have c20b0 : (t192 == 2) = false := beq_eq_false_iff_ne.mpr c20
                          have c20b1 : (t192 != 2) = true := bne_iff_ne.mpr c20
                          exact absurd (Option.some.inj H) (by rw [hr_.out]; decide)
                      · rw [if_neg c19] at H
                        have c19b0 : (t187 == 4) = false := beq_eq_false_iff_ne.mpr c19
                        have c19b1 : (t187 != 4) = true := bne_iff_ne.mpr c19
                        exact absurd (Option.some.inj H) (by rw [hr_.out]; decide)
                    · rw [if_neg c18] at H
                      have c18b0 : (t182 == 0) = false := beq_eq_false_iff_ne.mpr c18
                      have c18b1 : (t182 != 0) = true := bne_iff_ne.mpr c18
                      exact absurd (Option.some.inj H) (by rw [hr_.out]; decide)
                  · rw [if_neg c17] at H
                    have c17b0 : (t181 == 5) = false := beq_eq_false_iff_ne.mpr c17
                    have c17b1 : (t181 != 5) = true := bne_iff_ne.mpr c17
                    exact absurd (Option.some.inj H) (by rw [hr_.out]; decide)
                · replace c16 := Bool.eq_false_iff.mpr c16
                  subst c16
                  have H1 : (some false) = some r := by rw [if_neg (show ¬ (false = true) by decide)] at H; exact H
                  clear H
                  have H := H1
                  clear H1
                  exact absurd (Option.some.inj H) (by rw [hr_.out]; decide)
              · rw [if_neg c14] at H
                have c14b0 : (t178 == 3) = false := beq_eq_false_iff_ne.mpr c14
                have c14b1 : (t178 != 3) = true := bne_iff_ne.mpr c14
                exact absurd (Option.some.inj H) (by rw [hr_.out]; decide)
            · rw [if_neg c13] at H
              have c13b0 : (t170 == 4) = false := beq_eq_false_iff_ne.mpr c13
              have c13b1 : (t170 != 4) = true := bne_iff_ne.mpr c13
              exact absurd (Option.some.inj H) (by rw [hr_.out]; decide)
          · rw [if_neg c12] at H
            have c12b0 : (t162 == 0) = false := beq_eq_false_iff_ne.mpr c12
            have c12b1 : (t162 != 0) = true := bne_iff_ne.mpr c12
            exact absurd (Option.some.inj H) (by rw [hr_.out]; decide)
        · rw [if_neg c11] at H
          have c11b0 : (t161 == 8) = false := beq_eq_false_iff_ne.mpr c11
          have c11b1 : (t161 != 8) = true := bne_iff_ne.mpr c11
          exact absurd (Option.some.inj H) (by rw [hr_.out]; decide)
      · rw [if_neg c10] at H
        have c10b0 : (t156 == 1 && (t157 == 2 && (t158.toList == ([97] : List UInt8) && (t159.toList == ([120] : List UInt8) && (t160 == 3))))) = false := by simpa using c10
        (try (have c10b1 : decide (t156 = 1 && (t157 == 2 && (t158.toList == ([97] : List UInt8) && (t159.toList == ([120] : List UInt8) && (t160 == 3))))) = false := by simpa using c10))
        (try (have c10b2 : (t156 == 1 && (t157 == 2 && (t158.toList == ([97] : List UInt8) && (t159.toList == ([120] : List UInt8) && (t160 == 3))))) = false := by simpa using c10))
        (try (have c10b3 : ¬ (t156 = 1 && (t157 == 2 && (t158.toList == ([97] : List UInt8) && (t159.toList == ([120] : List UInt8) && (t160 == 3))))) := by simpa using c10))
        clear c10
        exact absurd (Option.some.inj H) (by rw [hr_.out]; decide)
    · rw [if_neg c9] at H
      have c9b0 : (t155.toList == ([1, 2, 3, 1, 97, 1, 120] : List UInt8)) = false := beq_eq_false_iff_ne.mpr c9
      have c9b1 : (t155.toList != ([1, 2, 3, 1, 97, 1, 120] : List UInt8)) = true := bne_iff_ne.mpr c9
      exact absurd (Option.some.inj H) (by rw [hr_.out]; decide)
  · rw [if_neg c2] at H
    exact absurd H (by simp)
end Go.Proofs.YtdoaomoocikmaaaDoor.Pr
