import Derived.Test.YtjjimkmbbifbjaaDoorKCuts30
import Derived.Test.YtjjimkmbbifbjaaDoorKCuts31
namespace Go.Proofs.YtjjimkmbbifbjaaDoor.Pr
open Go.RowKit Go.Proofs.YtjjimkmbbifbjaaDoorW.PrintWords Go.Proofs.YtjjimkmbbifbjaaDoorW.PrintLast Go.Proofs.YtjjimkmbbifbjaaDoorW.PrintMore
attribute [local go_sem] max2_int min2_int max_two min_two max_three min_three max_four min_four
set_option linter.unusedVariables false
set_option linter.unusedSimpArgs false
attribute [local go_sem high] eqA23
def rivuletlaw23_fixed.f (k : Nat)  : Option (Bool) := (script_Get.f ⟨#[122, 4, 2, 122]⟩ 1).bind fun bt190 => ((script_Get.f ⟨#[4, 8]⟩ 0).bind fun bt201 => ((script_Get.f ⟨#[11]⟩ 0).bind fun bt212 => ((script_Get.f ⟨#[4]⟩ 0).bind fun bt223 => ((script_Get.f ⟨#[]⟩ 1).bind fun bt234 => ((script_All.f k ⟨#[4, 2, 4, 2, 4]⟩).bind fun bt245 => ((script_Put.f 4 2 0 0 ⟨#[]⟩ ⟨#[]⟩ false 0).bind fun t250 => (if t250.toList = ([4, 2] : List UInt8) then (if (bt190.1 == 4 && (bt190.2.1 == 2 && (bt190.2.2.1 == 0 && (bt190.2.2.2.1 == 0 && (bt190.2.2.2.2.1.toList == ([] : List UInt8) && (bt190.2.2.2.2.2.1.toList == ([] : List UInt8) && (!bt190.2.2.2.2.2.2.1 && (bt190.2.2.2.2.2.2.2.1 == 0)))))))) = true then (if bt190.2.2.2.2.2.2.2.2.1 = 3 then (if bt190.2.2.2.2.2.2.2.2.2 = 0 then (if bt201.2.2.2.2.2.2.2.2.2 = 4 then (if bt212.2.2.2.2.2.2.2.2.2 = 6 then (if bt223.2.2.2.2.2.2.2.2.2 = 3 then (if bt234.2.2.2.2.2.2.2.2.2 = 1 then ((rivuletref23_Same.f k bt245.1 (([(⟨4, 2, 0, 0, (⟨#[]⟩ : ByteArray), (⟨#[]⟩ : ByteArray), false, 0⟩ : S23), (⟨4, 2, 0, 0, (⟨#[]⟩ : ByteArray), (⟨#[]⟩ : ByteArray), false, 0⟩ : S23)] : List (S23)))).bind fun t254 => (if t254 = true then (if bt245.2 = 4 then ((script_Put.f 0 1 3 0 ⟨#[97, 47, 98]⟩ ⟨#[120, 121]⟩ false 9).bind fun t255 => (if t255.toList = ([0, 1, 3, 9, 3, 97, 47, 98, 2, 120, 121] : List UInt8) then ((script_Put.f 3 0 1 0 ⟨#[35]⟩ ⟨#[]⟩ true 0).bind fun t256 => (if t256.toList = ([3, 0, 1, 1, 1, 35] : List UInt8) then ((script_Show.f (([(⟨4, 2, 0, 0, (⟨#[]⟩ : ByteArray), (⟨#[]⟩ : ByteArray), false, 0⟩ : S23), (⟨4, 2, 1, 0, (⟨#[]⟩ : ByteArray), (⟨#[]⟩ : ByteArray), false, 0⟩ : S23), (⟨0, 1, 3, 0, (⟨#[97, 47, 98]⟩ : ByteArray), (⟨#[120, 121]⟩ : ByteArray), false, 9⟩ : S23), (⟨3, 0, 1, 0, (⟨#[35]⟩ : ByteArray), (⟨#[]⟩ : ByteArray), true, 0⟩ : S23)] : List (S23)))).bind fun t260 => (if t260.toList = ([116, 105, 99, 107, 32, 50, 10, 112, 117, 98, 108, 105, 115, 104, 32, 49, 32, 51, 32, 57, 32, 97, 47, 98, 32, 50, 10, 97, 115, 107, 32, 48, 32, 49, 32, 111, 110, 32, 35, 10] : List UInt8) then ((script_Right.f 4 2 1 0 ⟨#[]⟩ ⟨#[]⟩ false 0).bind fun t261 => (if t261 = true then (some false) else ((script_Bare.f 4 2 1 0 ⟨#[]⟩ ⟨#[]⟩ false 0).bind fun bt262 => (if (bt262.1 == 4 && (bt262.2.1 == 2 && (bt262.2.2.1 == 0 && (bt262.2.2.2.1 == 0 && (bt262.2.2.2.2.1.toList == ([] : List UInt8) && (bt262.2.2.2.2.2.1.toList == ([] : List UInt8) && (!bt262.2.2.2.2.2.2.1 && (bt262.2.2.2.2.2.2.2 == 0)))))))) = true then ((script_Name.f 10).bind fun t270 => (if t270.toList = ([115, 116, 97, 114, 116] : List UInt8) then ((script_Name.f 11).bind fun t271 => (if t271.toList = ([] : List UInt8) then ((script_Bare.f 11 0 3 0 ⟨#[]⟩ ⟨#[]⟩ false 0).bind fun bt272 => (some (bt272.1 == 0 && (bt272.2.1 == 0 && (bt272.2.2.1 == 0 && (bt272.2.2.2.1 == 0 && (bt272.2.2.2.2.1.toList == ([] : List UInt8) && (bt272.2.2.2.2.2.1.toList == ([] : List UInt8) && (!bt272.2.2.2.2.2.2.1 && (bt272.2.2.2.2.2.2.2 == 0)))))))))) else (some false))) else (some false))) else (some false))))) else (some false))) else (some false))) else (some false))) else (some false)) else (some false))) else (some false)) else (some false)) else (some false)) else (some false)) else (some false)) else (some false)) else (some false)) else (some false))))))))
theorem rivuletlaw23_fixed.mono : ∀ k, LeO (rivuletlaw23_fixed.f k ) (rivuletlaw23_fixed.f (k + 1) ) := by
 intro  k
 unfold rivuletlaw23_fixed.f
 repeat' first
   | (with_reducible exact rivuletref23_Same.mono _ _ _)
   | (with_reducible exact script_All.mono _ _)
   | (with_reducible exact LeO.refl _)
   | (with_reducible exact LeO.none _)
   | (with_reducible refine LeO.ite ?_ ?_)
   | (with_reducible refine LeO.bind ?_ (fun _ => ?_))
   | exact rivuletref23_Same.mono _ _ _
   | exact script_All.mono _ _
   | exact LeO.none _
   | refine LeO.ite ?_ ?_
   | refine LeO.bind ?_ (fun _ => ?_)
theorem rivuletlaw23_fixed.trues (k : Nat) (r : Bool) (h : rivuletlaw23_fixed.f k = some r) : r = true := by
 have s : ∀ l : List S23, fitA l = true → smallA l = true → ∀ b, SP.showL (l.map toA) = b → script_Show.f l = some b := fun l h1 h2 b hb => (if_pos ⟨h1, h2⟩).trans (congrArg some hb)
 have s1 := s [⟨4, 2, 0, 0, ⟨#[]⟩, ⟨#[]⟩, false, 0⟩, ⟨4, 2, 1, 0, ⟨#[]⟩, ⟨#[]⟩, false, 0⟩, ⟨0, 1, 3, 0, ⟨#[97, 47, 98]⟩, ⟨#[120, 121]⟩, false, 9⟩, ⟨3, 0, 1, 0, ⟨#[35]⟩, ⟨#[]⟩, true, 0⟩] (by decide) (by decide) _ show_fix
 have e : rivuletlaw23_fixed.f 10 = some true := by
  unfold rivuletlaw23_fixed.f
  simp only [s1, VF.toList_eq]
  decide +kernel
 have h1 := at_rounds rivuletlaw23_fixed.mono (Nat.le_add_right k 10) h
 have h2 := at_rounds rivuletlaw23_fixed.mono (Nat.le_add_left 10 k) e
 exact Option.some.inj (h1.symm.trans h2)
def rivuletlaw23_fixed.T12 : Bool × List (List Nat × List Nat) := (true, [([], []), ([0], [0]), ([1], [1]), ([2, 1], [2]), ([3], [3]), ([3], [3]), ([4, 5, 3], [3, 4, 5]), ([3, 6], [3, 6]), ([7, 3], [7]), ([8], [8]), ([9, 8], [8, 9]), ([8, 10], [8, 10]), ([11, 8], [11]), ([12], [12]), ([13, 12], [12, 13]), ([12, 14], [12, 14]), ([15, 12], [15]), ([16], [16]), ([17, 16], [16, 17]), ([16, 18], [16, 18]), ([19, 16], [19]), ([20], [20]), ([21, 20], [20, 21]), ([20, 22], [20, 22]), ([23, 20], [23]), ([24], [24]), ([25, 24], [24, 25]), ([24, 26], [24, 26]), ([27, 24], [27]), ([28], [28]), ([29, 28], [28, 29]), ([28, 30], [28, 30]), ([31, 28], [31]), ([32], [32]), ([32], [32]), ([32], [32]), ([34, 35, 32], [32, 34, 35]), ([33, 36, 32, 32], [32, 33, 36]), ([32, 37], [32, 37]), ([38, 37], [38]), ([39], [39]), ([40, 39], [39, 40]), ([39, 41], [39, 41]), ([42, 39], [42]), ([43], [43]), ([44, 43, 43], [43, 44]), ([45, 43], [43, 45]), ([43, 46], [43, 46]), ([47, 45], [47]), ([48], [48]), ([49, 48, 48], [48, 49]), ([50, 48], [48, 50]), ([48, 51], [48, 51]), ([52, 50], [52]), ([53], [53]), ([53], [53]), ([53], [53]), ([53], [53]), ([54, 55, 56, 57, 53], [53, 54, 55, 56, 57]), ([58, 53, 53], [53, 58]), ([59, 53], [53, 59]), ([53, 60], [53, 60]), ([61, 59], [61]), ([62], [62]), ([63, 62, 62], [62, 63]), ([64, 62], [62, 64]), ([62, 65], [62, 65]), ([66, 64], [66]), ([67], [67]), ([68, 67, 67], [67, 68]), ([67], [67]), ([69, 70, 67], [67, 69, 70]), ([67, 71], [67, 71]), ([72, 69], [72]), ([73, 73], [73]), ([74, 73], [73, 74]), ([73, 75], [73, 75]), ([76, 74], [76]), ([77, 77], [77]), ([78, 77], [77, 78]), ([77, 79], [77, 79]), ([80, 78], [80]), ([81], [81]), ([82, 81, 81], [81, 82]), ([81], [81]), ([83, 84, 81], [81, 83, 84]), ([81, 85], [81, 85]), ([86, 83, 0, 1, 2, 3, 4, 5, 6, 7, 8, 9, 10, 11, 12, 13, 14, 15, 16, 17, 18, 19, 20, 21, 22, 23, 24, 25, 26, 27, 28, 29, 30, 31, 32, 33, 34, 35, 36, 37, 38, 39, 40, 41, 42, 43, 44, 45, 46, 47, 48, 49, 50, 51, 52, 53, 54, 55, 56, 57, 58, 59, 60, 61, 62, 63, 64, 65, 66, 67, 68, 69, 70, 71, 72, 73, 74, 75, 76, 77, 78, 79, 80, 81, 82, 83, 84, 85, 86], [86])])
def rivuletlaw23_fixed.B12 : List Nat := [0, 1, 3, 7, 15, 15, 63, 127, 255, 511, 1023, 2047, 4095, 8191, 16383, 32767, 65535, 131071, 262143, 524287, 1048575, 2097151, 4194303, 8388607, 16777215, 33554431, 67108863, 134217727, 268435455, 536870911, 1073741823, 2147483647, 4294967295, 8589934591, 8589934591, 8589934591, 60129542143, 137438953471, 274877906943, 549755813887, 1099511627775, 2199023255551, 4398046511103, 8796093022207, 17592186044415, 35184372088831, 70368744177663, 140737488355327, 281474976710655, 562949953421311, 1125899906842623, 2251799813685247, 4503599627370495, 9007199254740991, 18014398509481983, 18014398509481983, 18014398509481983, 18014398509481983, 288230376151711743, 576460752303423487, 1152921504606846975, 2305843009213693951, 4611686018427387903, 9223372036854775807, 18446744073709551615, 36893488147419103231, 73786976294838206463, 147573952589676412927, 295147905179352825855, 590295810358705651711, 295147905179352825855, 2361183241434822606847, 4722366482869645213695, 9444732965739290427391, 18889465931478580854783, 37778931862957161709567, 75557863725914323419135, 151115727451828646838271, 302231454903657293676543, 604462909807314587353087, 1208925819614629174706175, 2417851639229258349412351, 4835703278458516698824703, 9671406556917033397649407, 4835703278458516698824703, 38685626227668133590597631, 77371252455336267181195263, 154742504910672534362390527]
theorem rivuletlaw23_fixed.tab12 : rtab .any (opsOf Tryd.f21 12) = rivuletlaw23_fixed.T12 := by kernel_rfl
theorem rivuletlaw23_fixed.bits12 : waitsOk rivuletlaw23_fixed.T12.2 rivuletlaw23_fixed.B12 = true := by kernel_rfl
theorem last8 {w : World} {g : Nat} {t : TypeId} {v0 v1 v2 v3 v4 v5 v6 v7 : Value} (h : w.heap[g]? = some (.cells #[v0, v1, v2, v3, v4, v5, v6, v7] t (0, 0))) : w.cell? ⟨g, 0, none⟩ = some v0 ∧ w.cell? ⟨g, 1, none⟩ = some v1 ∧ w.cell? ⟨g, 2, none⟩ = some v2 ∧ w.cell? ⟨g, 3, none⟩ = some v3 ∧ w.cell? ⟨g, 4, none⟩ = some v4 ∧ w.cell? ⟨g, 5, none⟩ = some v5 ∧ w.cell? ⟨g, 6, none⟩ = some v6 ∧ w.cell? ⟨g, 7, none⟩ = some v7 := ⟨(blk_cell h 0).trans rfl, (blk_cell h 1).trans rfl, (blk_cell h 2).trans rfl, (blk_cell h 3).trans rfl, (blk_cell h 4).trans rfl, (blk_cell h 5).trans rfl, (blk_cell h 6).trans rfl, (blk_cell h 7).trans rfl⟩
theorem and8 {w : World} {g : Nat} {t : TypeId} {v0 v1 v2 v3 v4 v5 v6 v7 : Value} {R : Prop} (h : w.heap[g]? = some (.cells #[v0, v1, v2, v3, v4, v5, v6, v7] t (0, 0))) (r : R) : w.cell? ⟨g, 0, none⟩ = some v0 ∧ w.cell? ⟨g, 1, none⟩ = some v1 ∧ w.cell? ⟨g, 2, none⟩ = some v2 ∧ w.cell? ⟨g, 3, none⟩ = some v3 ∧ w.cell? ⟨g, 4, none⟩ = some v4 ∧ w.cell? ⟨g, 5, none⟩ = some v5 ∧ w.cell? ⟨g, 6, none⟩ = some v6 ∧ w.cell? ⟨g, 7, none⟩ = some v7 ∧ R := ⟨(blk_cell h 0).trans rfl, (blk_cell h 1).trans rfl, (blk_cell h 2).trans rfl, (blk_cell h 3).trans rfl, (blk_cell h 4).trans rfl, (blk_cell h 5).trans rfl, (blk_cell h 6).trans rfl, (blk_cell h 7).trans rfl, r⟩
set_option maxHeartbeats 8000000 in
set_option maxRecDepth 100000 in
theorem rivuletlaw23_fixed.calls (k : Nat)  (r : Bool) (w : World) (h : rivuletlaw23_fixed.f k  = some r) :
  Calls Tryd.prog 21 #[] w fun e w' => e = .returned (.bool r) ∧ Below w.heap.size w w' := by
 have hu23 := Tryd.underlying23
 have HB := Aside0.mk (Below.refl w.heap.size w)
 have hr_ := Aside0.mk (rivuletlaw23_fixed.trues k r h)
 have H : ((script_Get.f ⟨#[122, 4, 2, 122]⟩ 1).bind fun bt190 => ((script_Get.f ⟨#[4, 8]⟩ 0).bind fun bt201 => ((script_Get.f ⟨#[11]⟩ 0).bind fun bt212 => ((script_Get.f ⟨#[4]⟩ 0).bind fun bt223 => ((script_Get.f ⟨#[]⟩ 1).bind fun bt234 => ((script_All.f k ⟨#[4, 2, 4, 2, 4]⟩).bind fun bt245 => ((script_Put.f 4 2 0 0 ⟨#[]⟩ ⟨#[]⟩ false 0).bind fun t250 => (if t250.toList = ([4, 2] : List UInt8) then (if (bt190.1 == 4 && (bt190.2.1 == 2 && (bt190.2.2.1 == 0 && (bt190.2.2.2.1 == 0 && (bt190.2.2.2.2.1.toList == ([] : List UInt8) && (bt190.2.2.2.2.2.1.toList == ([] : List UInt8) && (!bt190.2.2.2.2.2.2.1 && (bt190.2.2.2.2.2.2.2.1 == 0)))))))) = true then (if bt190.2.2.2.2.2.2.2.2.1 = 3 then (if bt190.2.2.2.2.2.2.2.2.2 = 0 then (if bt201.2.2.2.2.2.2.2.2.2 = 4 then (if bt212.2.2.2.2.2.2.2.2.2 = 6 then (if bt223.2.2.2.2.2.2.2.2.2 = 3 then (if bt234.2.2.2.2.2.2.2.2.2 = 1 then ((rivuletref23_Same.f k bt245.1 (([(⟨4, 2, 0, 0, (⟨#[]⟩ : ByteArray), (⟨#[]⟩ : ByteArray), false, 0⟩ : S23), (⟨4, 2, 0, 0, (⟨#[]⟩ : ByteArray), (⟨#[]⟩ : ByteArray), false, 0⟩ : S23)] : List (S23)))).bind fun t254 => (if t254 = true then (if bt245.2 = 4 then ((script_Put.f 0 1 3 0 ⟨#[97, 47, 98]⟩ ⟨#[120, 121]⟩ false 9).bind fun t255 => (if t255.toList = ([0, 1, 3, 9, 3, 97, 47, 98, 2, 120, 121] : List UInt8) then ((script_Put.f 3 0 1 0 ⟨#[35]⟩ ⟨#[]⟩ true 0).bind fun t256 => (if t256.toList = ([3, 0, 1, 1, 1, 35] : List UInt8) then ((script_Show.f (([(⟨4, 2, 0, 0, (⟨#[]⟩ : ByteArray), (⟨#[]⟩ : ByteArray), false, 0⟩ : S23), (⟨4, 2, 1, 0, (⟨#[]⟩ : ByteArray), (⟨#[]⟩ : ByteArray), false, 0⟩ : S23), (⟨0, 1, 3, 0, (⟨#[97, 47, 98]⟩ : ByteArray), (⟨#[120, 121]⟩ : ByteArray), false, 9⟩ : S23), (⟨3, 0, 1, 0, (⟨#[35]⟩ : ByteArray), (⟨#[]⟩ : ByteArray), true, 0⟩ : S23)] : List (S23)))).bind fun t260 => (if t260.toList = ([116, 105, 99, 107, 32, 50, 10, 112, 117, 98, 108, 105, 115, 104, 32, 49, 32, 51, 32, 57, 32, 97, 47, 98, 32, 50, 10, 97, 115, 107, 32, 48, 32, 49, 32, 111, 110, 32, 35, 10] : List UInt8) then ((script_Right.f 4 2 1 0 ⟨#[]⟩ ⟨#[]⟩ false 0).bind fun t261 => (if t261 = true then (some false) else ((script_Bare.f 4 2 1 0 ⟨#[]⟩ ⟨#[]⟩ false 0).bind fun bt262 => (if (bt262.1 == 4 && (bt262.2.1 == 2 && (bt262.2.2.1 == 0 && (bt262.2.2.2.1 == 0 && (bt262.2.2.2.2.1.toList == ([] : List UInt8) && (bt262.2.2.2.2.2.1.toList == ([] : List UInt8) && (!bt262.2.2.2.2.2.2.1 && (bt262.2.2.2.2.2.2.2 == 0)))))))) = true then ((script_Name.f 10).bind fun t270 => (if t270.toList = ([115, 116, 97, 114, 116] : List UInt8) then ((script_Name.f 11).bind fun t271 => (if t271.toList = ([] : List UInt8) then ((script_Bare.f 11 0 3 0 ⟨#[]⟩ ⟨#[]⟩ false 0).bind fun bt272 => (some (bt272.1 == 0 && (bt272.2.1 == 0 && (bt272.2.2.1 == 0 && (bt272.2.2.2.1 == 0 && (bt272.2.2.2.2.1.toList == ([] : List UInt8) && (bt272.2.2.2.2.2.1.toList == ([] : List UInt8) && (!bt272.2.2.2.2.2.2.1 && (bt272.2.2.2.2.2.2.2 == 0)))))))))) else (some false))) else (some false))) else (some false))))) else (some false))) else (some false))) else (some false))) else (some false)) else (some false))) else (some false)) else (some false)) else (some false)) else (some false)) else (some false)) else (some false)) else (some false)) else (some false))))))))) = some r := h
 clear h
 replace H := Option.bind_eq_some_iff.mp H
 obtain ⟨⟨t190, t191, t192, t193, t194, t195, t196, t197, t198, t199⟩, A10, H⟩ := H
 have A1 := Aside0.mk A10
 clear A10
 replace H := Option.bind_eq_some_iff.mp H
 obtain ⟨⟨t201, t202, t203, t204, t205, t206, t207, t208, t209, t210⟩, A20, H⟩ := H
 have A2 := Aside0.mk A20
 clear A20
 replace H := Option.bind_eq_some_iff.mp H
 obtain ⟨⟨t212, t213, t214, t215, t216, t217, t218, t219, t220, t221⟩, A30, H⟩ := H
 have A3 := Aside0.mk A30
 clear A30
 replace H := Option.bind_eq_some_iff.mp H
 obtain ⟨⟨t223, t224, t225, t226, t227, t228, t229, t230, t231, t232⟩, A40, H⟩ := H
 have A4 := Aside0.mk A40
 clear A40
 replace H := Option.bind_eq_some_iff.mp H
 obtain ⟨⟨t234, t235, t236, t237, t238, t239, t240, t241, t242, t243⟩, A50, H⟩ := H
 have A5 := Aside0.mk A50
 clear A50
 replace H := Option.bind_eq_some_iff.mp H
 obtain ⟨⟨t245, t246⟩, A60, H⟩ := H
 have A6 := Aside0.mk A60
 clear A60
 replace H := Option.bind_eq_some_iff.mp H
 obtain ⟨t250, A70, H⟩ := H
 replace H : (if t250.toList = ([4, 2] : List UInt8) then (if (t190 == 4 && (t191 == 2 && (t192 == 0 && (t193 == 0 && (t194.toList == ([] : List UInt8) && (t195.toList == ([] : List UInt8) && (!t196 && (t197 == 0)))))))) = true then (if t198 = 3 then (if t199 = 0 then (if t210 = 4 then (if t221 = 6 then (if t232 = 3 then (if t243 = 1 then ((rivuletref23_Same.f k t245 (([(⟨4, 2, 0, 0, (⟨#[]⟩ : ByteArray), (⟨#[]⟩ : ByteArray), false, 0⟩ : S23), (⟨4, 2, 0, 0, (⟨#[]⟩ : ByteArray), (⟨#[]⟩ : ByteArray), false, 0⟩ : S23)] : List (S23)))).bind fun t254 => (if t254 = true then (if t246 = 4 then ((script_Put.f 0 1 3 0 ⟨#[97, 47, 98]⟩ ⟨#[120, 121]⟩ false 9).bind fun t255 => (if t255.toList = ([0, 1, 3, 9, 3, 97, 47, 98, 2, 120, 121] : List UInt8) then ((script_Put.f 3 0 1 0 ⟨#[35]⟩ ⟨#[]⟩ true 0).bind fun t256 => (if t256.toList = ([3, 0, 1, 1, 1, 35] : List UInt8) then ((script_Show.f (([(⟨4, 2, 0, 0, (⟨#[]⟩ : ByteArray), (⟨#[]⟩ : ByteArray), false, 0⟩ : S23), (⟨4, 2, 1, 0, (⟨#[]⟩ : ByteArray), (⟨#[]⟩ : ByteArray), false, 0⟩ : S23), (⟨0, 1, 3, 0, (⟨#[97, 47, 98]⟩ : ByteArray), (⟨#[120, 121]⟩ : ByteArray), false, 9⟩ : S23), (⟨3, 0, 1, 0, (⟨#[35]⟩ : ByteArray), (⟨#[]⟩ : ByteArray), true, 0⟩ : S23)] : List (S23)))).bind fun t260 => (if t260.toList = ([116, 105, 99, 107, 32, 50, 10, 112, 117, 98, 108, 105, 115, 104, 32, 49, 32, 51, 32, 57, 32, 97, 47, 98, 32, 50, 10, 97, 115, 107, 32, 48, 32, 49, 32, 111, 110, 32, 35, 10] : List UInt8) then ((script_Right.f 4 2 1 0 ⟨#[]⟩ ⟨#[]⟩ false 0).bind fun t261 => (if t261 = true then (some false) else ((script_Bare.f 4 2 1 0 ⟨#[]⟩ ⟨#[]⟩ false 0).bind fun bt262 => (if (bt262.1 == 4 && (bt262.2.1 == 2 && (bt262.2.2.1 == 0 && (bt262.2.2.2.1 == 0 && (bt262.2.2.2.2.1.toList == ([] : List UInt8) && (bt262.2.2.2.2.2.1.toList == ([] : List UInt8) && (!bt262.2.2.2.2.2.2.1 && (bt262.2.2.2.2.2.2.2 == 0)))))))) = true then ((script_Name.f 10).bind fun t270 => (if t270.toList = ([115, 116, 97, 114, 116] : List UInt8) then ((script_Name.f 11).bind fun t271 => (if t271.toList = ([] : List UInt8) then ((script_Bare.f 11 0 3 0 ⟨#[]⟩ ⟨#[]⟩ false 0).bind fun bt272 => (some (bt272.1 == 0 && (bt272.2.1 == 0 && (bt272.2.2.1 == 0 && (bt272.2.2.2.1 == 0 && (bt272.2.2.2.2.1.toList == ([] : List UInt8) && (bt272.2.2.2.2.2.1.toList == ([] : List UInt8) && (!bt272.2.2.2.2.2.2.1 && (bt272.2.2.2.2.2.2.2 == 0)))))))))) else (some false))) else (some false))) else (some false))))) else (some false))) else (some false))) else (some false))) else (some false)) else (some false))) else (some false)) else (some false)) else (some false)) else (some false)) else (some false)) else (some false)) else (some false)) else (some false)) = some r := H
 have A7 := Aside0.mk A70
 clear A70
 by_cases c8 : t250.toList = ([4, 2] : List UInt8)
 ·rw [if_pos c8] at H
  have c8b0 : (t250.toList == ([4, 2] : List UInt8)) = true := beq_iff_eq.mpr c8
  have c8b1 : (t250.toList != ([4, 2] : List UInt8)) = false := bne_eq_false_iff_eq.mpr c8
  clear c8
  by_cases c9 : (t190 == 4 && (t191 == 2 && (t192 == 0 && (t193 == 0 && (t194.toList == ([] : List UInt8) && (t195.toList == ([] : List UInt8) && (!t196 && (t197 == 0)))))))) = true
  ·rw [if_pos c9] at H
   have c9b0 : (t190 == 4 && (t191 == 2 && (t192 == 0 && (t193 == 0 && (t194.toList == ([] : List UInt8) && (t195.toList == ([] : List UInt8) && (!t196 && (t197 == 0)))))))) = true := c9
   (try (have c9b1 : decide (t190 = 4 && (t191 == 2 && (t192 == 0 && (t193 == 0 && (t194.toList == ([] : List UInt8) && (t195.toList == ([] : List UInt8) && (!t196 && (t197 == 0)))))))) = true := by simpa using c9))
   (try (have c9b2 : (t190 == 4 && (t191 == 2 && (t192 == 0 && (t193 == 0 && (t194.toList == ([] : List UInt8) && (t195.toList == ([] : List UInt8) && (!t196 && (t197 == 0)))))))) = true := by simpa using c9))
   clear c9
   by_cases c10 : t198 = 3
   ·rw [if_pos c10] at H
    have c10b0 : (t198 == 3) = true := beq_iff_eq.mpr c10
    have c10b1 : (t198 != 3) = false := bne_eq_false_iff_eq.mpr c10
    clear c10
    by_cases c11 : t199 = 0
    ·rw [if_pos c11] at H
     have c11b0 : (t199 == 0) = true := beq_iff_eq.mpr c11
     have c11b1 : (t199 != 0) = false := bne_eq_false_iff_eq.mpr c11
     clear c11
     by_cases c12 : t210 = 4
     ·rw [if_pos c12] at H
      have c12b0 : (t210 == 4) = true := beq_iff_eq.mpr c12
      have c12b1 : (t210 != 4) = false := bne_eq_false_iff_eq.mpr c12
      clear c12
      by_cases c13 : t221 = 6
      ·rw [if_pos c13] at H
       have c13b0 : (t221 == 6) = true := beq_iff_eq.mpr c13
       have c13b1 : (t221 != 6) = false := bne_eq_false_iff_eq.mpr c13
       clear c13
       by_cases c14 : t232 = 3
       ·rw [if_pos c14] at H
        have c14b0 : (t232 == 3) = true := beq_iff_eq.mpr c14
        have c14b1 : (t232 != 3) = false := bne_eq_false_iff_eq.mpr c14
        clear c14
        by_cases c15 : t243 = 1
        ·rw [if_pos c15] at H
         have c15b0 : (t243 == 1) = true := beq_iff_eq.mpr c15
         have c15b1 : (t243 != 1) = false := bne_eq_false_iff_eq.mpr c15
         clear c15
         obtain ⟨y251, hy251⟩ : ∃ y_ : List (S23), y_ = (([(⟨4, 2, 0, 0, (⟨#[]⟩ : ByteArray), (⟨#[]⟩ : ByteArray), false, 0⟩ : S23), (⟨4, 2, 0, 0, (⟨#[]⟩ : ByteArray), (⟨#[]⟩ : ByteArray), false, 0⟩ : S23)] : List (S23))) := ⟨_, rfl⟩
         replace H : ((rivuletref23_Same.f k t245 y251).bind fun t254 => (if t254 = true then (if t246 = 4 then ((script_Put.f 0 1 3 0 ⟨#[97, 47, 98]⟩ ⟨#[120, 121]⟩ false 9).bind fun t255 => (if t255.toList = ([0, 1, 3, 9, 3, 97, 47, 98, 2, 120, 121] : List UInt8) then ((script_Put.f 3 0 1 0 ⟨#[35]⟩ ⟨#[]⟩ true 0).bind fun t256 => (if t256.toList = ([3, 0, 1, 1, 1, 35] : List UInt8) then ((script_Show.f (([(⟨4, 2, 0, 0, (⟨#[]⟩ : ByteArray), (⟨#[]⟩ : ByteArray), false, 0⟩ : S23), (⟨4, 2, 1, 0, (⟨#[]⟩ : ByteArray), (⟨#[]⟩ : ByteArray), false, 0⟩ : S23), (⟨0, 1, 3, 0, (⟨#[97, 47, 98]⟩ : ByteArray), (⟨#[120, 121]⟩ : ByteArray), false, 9⟩ : S23), (⟨3, 0, 1, 0, (⟨#[35]⟩ : ByteArray), (⟨#[]⟩ : ByteArray), true, 0⟩ : S23)] : List (S23)))).bind fun t260 => (if t260.toList = ([116, 105, 99, 107, 32, 50, 10, 112, 117, 98, 108, 105, 115, 104, 32, 49, 32, 51, 32, 57, 32, 97, 47, 98, 32, 50, 10, 97, 115, 107, 32, 48, 32, 49, 32, 111, 110, 32, 35, 10] : List UInt8) then ((script_Right.f 4 2 1 0 ⟨#[]⟩ ⟨#[]⟩ false 0).bind fun t261 => (if t261 = true then (some false) else ((script_Bare.f 4 2 1 0 ⟨#[]⟩ ⟨#[]⟩ false 0).bind fun bt262 => (if (bt262.1 == 4 && (bt262.2.1 == 2 && (bt262.2.2.1 == 0 && (bt262.2.2.2.1 == 0 && (bt262.2.2.2.2.1.toList == ([] : List UInt8) && (bt262.2.2.2.2.2.1.toList == ([] : List UInt8) && (!bt262.2.2.2.2.2.2.1 && (bt262.2.2.2.2.2.2.2 == 0)))))))) = true then ((script_Name.f 10).bind fun t270 => (if t270.toList = ([115, 116, 97, 114, 116] : List UInt8) then ((script_Name.f 11).bind fun t271 => (if t271.toList = ([] : List UInt8) then ((script_Bare.f 11 0 3 0 ⟨#[]⟩ ⟨#[]⟩ false 0).bind fun bt272 => (some (bt272.1 == 0 && (bt272.2.1 == 0 && (bt272.2.2.1 == 0 && (bt272.2.2.2.1 == 0 && (bt272.2.2.2.2.1.toList == ([] : List UInt8) && (bt272.2.2.2.2.2.1.toList == ([] : List UInt8) && (!bt272.2.2.2.2.2.2.1 && (bt272.2.2.2.2.2.2.2 == 0)))))))))) else (some false))) else (some false))) else (some false))))) else (some false))) else (some false))) else (some false))) else (some false)) else (some false))) = some r := by first | (rw [hy251]; with_reducible exact H) | (have H2_ := (Option.bind_some _ _).symm.trans H; rw [hy251]; with_reducible exact H2_) | (have H2_ := (Option.bind_some _ _).symm.trans H; with_reducible exact H2_) | with_reducible exact H | (rw [hy251]; exact H) | exact H
         have Ny251 := Aside0.mk hy251
         clear hy251
         replace H := Option.bind_eq_some_iff.mp H
         obtain ⟨t254, A160, H⟩ := H
         replace H : (if t254 = true then (if t246 = 4 then ((script_Put.f 0 1 3 0 ⟨#[97, 47, 98]⟩ ⟨#[120, 121]⟩ false 9).bind fun t255 => (if t255.toList = ([0, 1, 3, 9, 3, 97, 47, 98, 2, 120, 121] : List UInt8) then ((script_Put.f 3 0 1 0 ⟨#[35]⟩ ⟨#[]⟩ true 0).bind fun t256 => (if t256.toList = ([3, 0, 1, 1, 1, 35] : List UInt8) then ((script_Show.f (([(⟨4, 2, 0, 0, (⟨#[]⟩ : ByteArray), (⟨#[]⟩ : ByteArray), false, 0⟩ : S23), (⟨4, 2, 1, 0, (⟨#[]⟩ : ByteArray), (⟨#[]⟩ : ByteArray), false, 0⟩ : S23), (⟨0, 1, 3, 0, (⟨#[97, 47, 98]⟩ : ByteArray), (⟨#[120, 121]⟩ : ByteArray), false, 9⟩ : S23), (⟨3, 0, 1, 0, (⟨#[35]⟩ : ByteArray), (⟨#[]⟩ : ByteArray), true, 0⟩ : S23)] : List (S23)))).bind fun t260 => (if t260.toList = ([116, 105, 99, 107, 32, 50, 10, 112, 117, 98, 108, 105, 115, 104, 32, 49, 32, 51, 32, 57, 32, 97, 47, 98, 32, 50, 10, 97, 115, 107, 32, 48, 32, 49, 32, 111, 110, 32, 35, 10] : List UInt8) then ((script_Right.f 4 2 1 0 ⟨#[]⟩ ⟨#[]⟩ false 0).bind fun t261 => (if t261 = true then (some false) else ((script_Bare.f 4 2 1 0 ⟨#[]⟩ ⟨#[]⟩ false 0).bind fun bt262 => (if (bt262.1 == 4 && (bt262.2.1 == 2 && (bt262.2.2.1 == 0 && (bt262.2.2.2.1 == 0 && (bt262.2.2.2.2.1.toList == ([] : List UInt8) && (bt262.2.2.2.2.2.1.toList == ([] : List UInt8) && (!bt262.2.2.2.2.2.2.1 && (bt262.2.2.2.2.2.2.2 == 0)))))))) = true then ((script_Name.f 10).bind fun t270 => (if t270.toList = ([115, 116, 97, 114, 116] : List UInt8) then ((script_Name.f 11).bind fun t271 => (if t271.toList = ([] : List UInt8) then ((script_Bare.f 11 0 3 0 ⟨#[]⟩ ⟨#[]⟩ false 0).bind fun bt272 => (some (bt272.1 == 0 && (bt272.2.1 == 0 && (bt272.2.2.1 == 0 && (bt272.2.2.2.1 == 0 && (bt272.2.2.2.2.1.toList == ([] : List UInt8) && (bt272.2.2.2.2.2.1.toList == ([] : List UInt8) && (!bt272.2.2.2.2.2.2.1 && (bt272.2.2.2.2.2.2.2 == 0)))))))))) else (some false))) else (some false))) else (some false))))) else (some false))) else (some false))) else (some false))) else (some false)) else (some false)) = some r := H
         have A16 := Aside0.mk A160
         clear A160
         by_cases c17 : t254 = true
         ·subst c17
          have H1 : (if t246 = 4 then ((script_Put.f 0 1 3 0 ⟨#[97, 47, 98]⟩ ⟨#[120, 121]⟩ false 9).bind fun t255 => (if t255.toList = ([0, 1, 3, 9, 3, 97, 47, 98, 2, 120, 121] : List UInt8) then ((script_Put.f 3 0 1 0 ⟨#[35]⟩ ⟨#[]⟩ true 0).bind fun t256 => (if t256.toList = ([3, 0, 1, 1, 1, 35] : List UInt8) then ((script_Show.f (([(⟨4, 2, 0, 0, (⟨#[]⟩ : ByteArray), (⟨#[]⟩ : ByteArray), false, 0⟩ : S23), (⟨4, 2, 1, 0, (⟨#[]⟩ : ByteArray), (⟨#[]⟩ : ByteArray), false, 0⟩ : S23), (⟨0, 1, 3, 0, (⟨#[97, 47, 98]⟩ : ByteArray), (⟨#[120, 121]⟩ : ByteArray), false, 9⟩ : S23), (⟨3, 0, 1, 0, (⟨#[35]⟩ : ByteArray), (⟨#[]⟩ : ByteArray), true, 0⟩ : S23)] : List (S23)))).bind fun t260 => (if t260.toList = ([116, 105, 99, 107, 32, 50, 10, 112, 117, 98, 108, 105, 115, 104, 32, 49, 32, 51, 32, 57, 32, 97, 47, 98, 32, 50, 10, 97, 115, 107, 32, 48, 32, 49, 32, 111, 110, 32, 35, 10] : List UInt8) then ((script_Right.f 4 2 1 0 ⟨#[]⟩ ⟨#[]⟩ false 0).bind fun t261 => (if t261 = true then (some false) else ((script_Bare.f 4 2 1 0 ⟨#[]⟩ ⟨#[]⟩ false 0).bind fun bt262 => (if (bt262.1 == 4 && (bt262.2.1 == 2 && (bt262.2.2.1 == 0 && (bt262.2.2.2.1 == 0 && (bt262.2.2.2.2.1.toList == ([] : List UInt8) && (bt262.2.2.2.2.2.1.toList == ([] : List UInt8) && (!bt262.2.2.2.2.2.2.1 && (bt262.2.2.2.2.2.2.2 == 0)))))))) = true then ((script_Name.f 10).bind fun t270 => (if t270.toList = ([115, 116, 97, 114, 116] : List UInt8) then ((script_Name.f 11).bind fun t271 => (if t271.toList = ([] : List UInt8) then ((script_Bare.f 11 0 3 0 ⟨#[]⟩ ⟨#[]⟩ false 0).bind fun bt272 => (some (bt272.1 == 0 && (bt272.2.1 == 0 && (bt272.2.2.1 == 0 && (bt272.2.2.2.1 == 0 && (bt272.2.2.2.2.1.toList == ([] : List UInt8) && (bt272.2.2.2.2.2.1.toList == ([] : List UInt8) && (!bt272.2.2.2.2.2.2.1 && (bt272.2.2.2.2.2.2.2 == 0)))))))))) else (some false))) else (some false))) else (some false))))) else (some false))) else (some false))) else (some false))) else (some false)) = some r := by rw [if_pos rfl] at H; exact H
          clear H
          have H := H1
          clear H1
          by_cases c18 : t246 = 4
          ·rw [if_pos c18] at H
           have c18b0 : (t246 == 4) = true := beq_iff_eq.mpr c18
           have c18b1 : (t246 != 4) = false := bne_eq_false_iff_eq.mpr c18
           clear c18
           replace H := Option.bind_eq_some_iff.mp H
           obtain ⟨t255, A190, H⟩ := H
           replace H : (if t255.toList = ([0, 1, 3, 9, 3, 97, 47, 98, 2, 120, 121] : List UInt8) then ((script_Put.f 3 0 1 0 ⟨#[35]⟩ ⟨#[]⟩ true 0).bind fun t256 => (if t256.toList = ([3, 0, 1, 1, 1, 35] : List UInt8) then ((script_Show.f (([(⟨4, 2, 0, 0, (⟨#[]⟩ : ByteArray), (⟨#[]⟩ : ByteArray), false, 0⟩ : S23), (⟨4, 2, 1, 0, (⟨#[]⟩ : ByteArray), (⟨#[]⟩ : ByteArray), false, 0⟩ : S23), (⟨0, 1, 3, 0, (⟨#[97, 47, 98]⟩ : ByteArray), (⟨#[120, 121]⟩ : ByteArray), false, 9⟩ : S23), (⟨3, 0, 1, 0, (⟨#[35]⟩ : ByteArray), (⟨#[]⟩ : ByteArray), true, 0⟩ : S23)] : List (S23)))).bind fun t260 => (if t260.toList = ([116, 105, 99, 107, 32, 50, 10, 112, 117, 98, 108, 105, 115, 104, 32, 49, 32, 51, 32, 57, 32, 97, 47, 98, 32, 50, 10, 97, 115, 107, 32, 48, 32, 49, 32, 111, 110, 32, 35, 10] : List UInt8) then ((script_Right.f 4 2 1 0 ⟨#[]⟩ ⟨#[]⟩ false 0).bind fun t261 => (if t261 = true then (some false) else ((script_Bare.f 4 2 1 0 ⟨#[]⟩ ⟨#[]⟩ false 0).bind fun bt262 => (if (bt262.1 == 4 && (bt262.2.1 == 2 && (bt262.2.2.1 == 0 && (bt262.2.2.2.1 == 0 && (bt262.2.2.2.2.1.toList == ([] : List UInt8) && (bt262.2.2.2.2.2.1.toList == ([] : List UInt8) && (!bt262.2.2.2.2.2.2.1 && (bt262.2.2.2.2.2.2.2 == 0)))))))) = true then ((script_Name.f 10).bind fun t270 => (if t270.toList = ([115, 116, 97, 114, 116] : List UInt8) then ((script_Name.f 11).bind fun t271 => (if t271.toList = ([] : List UInt8) then ((script_Bare.f 11 0 3 0 ⟨#[]⟩ ⟨#[]⟩ false 0).bind fun bt272 => (some (bt272.1 == 0 && (bt272.2.1 == 0 && (bt272.2.2.1 == 0 && (bt272.2.2.2.1 == 0 && (bt272.2.2.2.2.1.toList == ([] : List UInt8) && (bt272.2.2.2.2.2.1.toList == ([] : List UInt8) && (!bt272.2.2.2.2.2.2.1 && (bt272.2.2.2.2.2.2.2 == 0)))))))))) else (some false))) else (some false))) else (some false))))) else (some false))) else (some false))) else (some false)) = some r := H
           have A19 := Aside0.mk A190
           clear A190
           by_cases c20 : t255.toList = ([0, 1, 3, 9, 3, 97, 47, 98, 2, 120, 121] : List UInt8)
           ·rw [if_pos c20] at H
            have c20b0 : (t255.toList == ([0, 1, 3, 9, 3, 97, 47, 98, 2, 120, 121] : List UInt8)) = true := beq_iff_eq.mpr c20
            have c20b1 : (t255.toList != ([0, 1, 3, 9, 3, 97, 47, 98, 2, 120, 121] : List UInt8)) = false := bne_eq_false_iff_eq.mpr c20
            clear c20
            replace H := Option.bind_eq_some_iff.mp H
            obtain ⟨t256, A210, H⟩ := H
            replace H : (if t256.toList = ([3, 0, 1, 1, 1, 35] : List UInt8) then ((script_Show.f (([(⟨4, 2, 0, 0, (⟨#[]⟩ : ByteArray), (⟨#[]⟩ : ByteArray), false, 0⟩ : S23), (⟨4, 2, 1, 0, (⟨#[]⟩ : ByteArray), (⟨#[]⟩ : ByteArray), false, 0⟩ : S23), (⟨0, 1, 3, 0, (⟨#[97, 47, 98]⟩ : ByteArray), (⟨#[120, 121]⟩ : ByteArray), false, 9⟩ : S23), (⟨3, 0, 1, 0, (⟨#[35]⟩ : ByteArray), (⟨#[]⟩ : ByteArray), true, 0⟩ : S23)] : List (S23)))).bind fun t260 => (if t260.toList = ([116, 105, 99, 107, 32, 50, 10, 112, 117, 98, 108, 105, 115, 104, 32, 49, 32, 51, 32, 57, 32, 97, 47, 98, 32, 50, 10, 97, 115, 107, 32, 48, 32, 49, 32, 111, 110, 32, 35, 10] : List UInt8) then ((script_Right.f 4 2 1 0 ⟨#[]⟩ ⟨#[]⟩ false 0).bind fun t261 => (if t261 = true then (some false) else ((script_Bare.f 4 2 1 0 ⟨#[]⟩ ⟨#[]⟩ false 0).bind fun bt262 => (if (bt262.1 == 4 && (bt262.2.1 == 2 && (bt262.2.2.1 == 0 && (bt262.2.2.2.1 == 0 && (bt262.2.2.2.2.1.toList == ([] : List UInt8) && (bt262.2.2.2.2.2.1.toList == ([] : List UInt8) && (!bt262.2.2.2.2.2.2.1 && (bt262.2.2.2.2.2.2.2 == 0)))))))) = true then ((script_Name.f 10).bind fun t270 => (if t270.toList = ([115, 116, 97, 114, 116] : List UInt8) then ((script_Name.f 11).bind fun t271 => (if t271.toList = ([] : List UInt8) then ((script_Bare.f 11 0 3 0 ⟨#[]⟩ ⟨#[]⟩ false 0).bind fun bt272 => (some (bt272.1 == 0 && (bt272.2.1 == 0 && (bt272.2.2.1 == 0 && (bt272.2.2.2.1 == 0 && (bt272.2.2.2.2.1.toList == ([] : List UInt8) && (bt272.2.2.2.2.2.1.toList == ([] : List UInt8) && (!bt272.2.2.2.2.2.2.1 && (bt272.2.2.2.2.2.2.2 == 0)))))))))) else (some false))) else (some false))) else (some false))))) else (some false))) else (some false)) = some r := H
            have A21 := Aside0.mk A210
            clear A210
            by_cases c22 : t256.toList = ([3, 0, 1, 1, 1, 35] : List UInt8)
            ·rw [if_pos c22] at H
             have c22b0 : (t256.toList == ([3, 0, 1, 1, 1, 35] : List UInt8)) = true := beq_iff_eq.mpr c22
             have c22b1 : (t256.toList != ([3, 0, 1, 1, 1, 35] : List UInt8)) = false := bne_eq_false_iff_eq.mpr c22
             clear c22
             obtain ⟨y257, hy257⟩ : ∃ y_ : List (S23), y_ = (([(⟨4, 2, 0, 0, (⟨#[]⟩ : ByteArray), (⟨#[]⟩ : ByteArray), false, 0⟩ : S23), (⟨4, 2, 1, 0, (⟨#[]⟩ : ByteArray), (⟨#[]⟩ : ByteArray), false, 0⟩ : S23), (⟨0, 1, 3, 0, (⟨#[97, 47, 98]⟩ : ByteArray), (⟨#[120, 121]⟩ : ByteArray), false, 9⟩ : S23), (⟨3, 0, 1, 0, (⟨#[35]⟩ : ByteArray), (⟨#[]⟩ : ByteArray), true, 0⟩ : S23)] : List (S23))) := ⟨_, rfl⟩
             replace H : ((script_Show.f y257).bind fun t260 => (if t260.toList = ([116, 105, 99, 107, 32, 50, 10, 112, 117, 98, 108, 105, 115, 104, 32, 49, 32, 51, 32, 57, 32, 97, 47, 98, 32, 50, 10, 97, 115, 107, 32, 48, 32, 49, 32, 111, 110, 32, 35, 10] : List UInt8) then ((script_Right.f 4 2 1 0 ⟨#[]⟩ ⟨#[]⟩ false 0).bind fun t261 => (if t261 = true then (some false) else ((script_Bare.f 4 2 1 0 ⟨#[]⟩ ⟨#[]⟩ false 0).bind fun bt262 => (if (bt262.1 == 4 && (bt262.2.1 == 2 && (bt262.2.2.1 == 0 && (bt262.2.2.2.1 == 0 && (bt262.2.2.2.2.1.toList == ([] : List UInt8) && (bt262.2.2.2.2.2.1.toList == ([] : List UInt8) && (!bt262.2.2.2.2.2.2.1 && (bt262.2.2.2.2.2.2.2 == 0)))))))) = true then ((script_Name.f 10).bind fun t270 => (if t270.toList = ([115, 116, 97, 114, 116] : List UInt8) then ((script_Name.f 11).bind fun t271 => (if t271.toList = ([] : List UInt8) then ((script_Bare.f 11 0 3 0 ⟨#[]⟩ ⟨#[]⟩ false 0).bind fun bt272 => (some (bt272.1 == 0 && (bt272.2.1 == 0 && (bt272.2.2.1 == 0 && (bt272.2.2.2.1 == 0 && (bt272.2.2.2.2.1.toList == ([] : List UInt8) && (bt272.2.2.2.2.2.1.toList == ([] : List UInt8) && (!bt272.2.2.2.2.2.2.1 && (bt272.2.2.2.2.2.2.2 == 0)))))))))) else (some false))) else (some false))) else (some false))))) else (some false))) = some r := by first | (rw [hy257]; with_reducible exact H) | (have H2_ := (Option.bind_some _ _).symm.trans H; rw [hy257]; with_reducible exact H2_) | (have H2_ := (Option.bind_some _ _).symm.trans H; with_reducible exact H2_) | with_reducible exact H | (rw [hy257]; exact H) | exact H
             have Ny257 := Aside0.mk hy257
             clear hy257
             replace H := Option.bind_eq_some_iff.mp H
             obtain ⟨t260, A230, H⟩ := H
             replace H : (if t260.toList = ([116, 105, 99, 107, 32, 50, 10, 112, 117, 98, 108, 105, 115, 104, 32, 49, 32, 51, 32, 57, 32, 97, 47, 98, 32, 50, 10, 97, 115, 107, 32, 48, 32, 49, 32, 111, 110, 32, 35, 10] : List UInt8) then ((script_Right.f 4 2 1 0 ⟨#[]⟩ ⟨#[]⟩ false 0).bind fun t261 => (if t261 = true then (some false) else ((script_Bare.f 4 2 1 0 ⟨#[]⟩ ⟨#[]⟩ false 0).bind fun bt262 => (if (bt262.1 == 4 && (bt262.2.1 == 2 && (bt262.2.2.1 == 0 && (bt262.2.2.2.1 == 0 && (bt262.2.2.2.2.1.toList == ([] : List UInt8) && (bt262.2.2.2.2.2.1.toList == ([] : List UInt8) && (!bt262.2.2.2.2.2.2.1 && (bt262.2.2.2.2.2.2.2 == 0)))))))) = true then ((script_Name.f 10).bind fun t270 => (if t270.toList = ([115, 116, 97, 114, 116] : List UInt8) then ((script_Name.f 11).bind fun t271 => (if t271.toList = ([] : List UInt8) then ((script_Bare.f 11 0 3 0 ⟨#[]⟩ ⟨#[]⟩ false 0).bind fun bt272 => (some (bt272.1 == 0 && (bt272.2.1 == 0 && (bt272.2.2.1 == 0 && (bt272.2.2.2.1 == 0 && (bt272.2.2.2.2.1.toList == ([] : List UInt8) && (bt272.2.2.2.2.2.1.toList == ([] : List UInt8) && (!bt272.2.2.2.2.2.2.1 && (bt272.2.2.2.2.2.2.2 == 0)))))))))) else (some false))) else (some false))) else (some false))))) else (some false)) = some r := H
             have A23 := Aside0.mk A230
             clear A230
             by_cases c24 : t260.toList = ([116, 105, 99, 107, 32, 50, 10, 112, 117, 98, 108, 105, 115, 104, 32, 49, 32, 51, 32, 57, 32, 97, 47, 98, 32, 50, 10, 97, 115, 107, 32, 48, 32, 49, 32, 111, 110, 32, 35, 10] : List UInt8)
             ·rw [if_pos c24] at H
              have c24b0 : (t260.toList == ([116, 105, 99, 107, 32, 50, 10, 112, 117, 98, 108, 105, 115, 104, 32, 49, 32, 51, 32, 57, 32, 97, 47, 98, 32, 50, 10, 97, 115, 107, 32, 48, 32, 49, 32, 111, 110, 32, 35, 10] : List UInt8)) = true := beq_iff_eq.mpr c24
              have c24b1 : (t260.toList != ([116, 105, 99, 107, 32, 50, 10, 112, 117, 98, 108, 105, 115, 104, 32, 49, 32, 51, 32, 57, 32, 97, 47, 98, 32, 50, 10, 97, 115, 107, 32, 48, 32, 49, 32, 111, 110, 32, 35, 10] : List UInt8)) = false := bne_eq_false_iff_eq.mpr c24
              clear c24
              replace H := Option.bind_eq_some_iff.mp H
              obtain ⟨t261, A250, H⟩ := H
              replace H : (if t261 = true then (some false) else ((script_Bare.f 4 2 1 0 ⟨#[]⟩ ⟨#[]⟩ false 0).bind fun bt262 => (if (bt262.1 == 4 && (bt262.2.1 == 2 && (bt262.2.2.1 == 0 && (bt262.2.2.2.1 == 0 && (bt262.2.2.2.2.1.toList == ([] : List UInt8) && (bt262.2.2.2.2.2.1.toList == ([] : List UInt8) && (!bt262.2.2.2.2.2.2.1 && (bt262.2.2.2.2.2.2.2 == 0)))))))) = true then ((script_Name.f 10).bind fun t270 => (if t270.toList = ([115, 116, 97, 114, 116] : List UInt8) then ((script_Name.f 11).bind fun t271 => (if t271.toList = ([] : List UInt8) then ((script_Bare.f 11 0 3 0 ⟨#[]⟩ ⟨#[]⟩ false 0).bind fun bt272 => (some (bt272.1 == 0 && (bt272.2.1 == 0 && (bt272.2.2.1 == 0 && (bt272.2.2.2.1 == 0 && (bt272.2.2.2.2.1.toList == ([] : List UInt8) && (bt272.2.2.2.2.2.1.toList == ([] : List UInt8) && (!bt272.2.2.2.2.2.2.1 && (bt272.2.2.2.2.2.2.2 == 0)))))))))) else (some false))) else (some false))) else (some false)))) = some r := H
              have A25 := Aside0.mk A250
              clear A250
              by_cases c26 : t261 = true
              ·subst c26
               have H1 : (some false) = some r := by rw [if_pos rfl] at H; exact H
               clear H
               have H := H1
               clear H1
               exact absurd (Option.some.inj H) (by rw [hr_.out]; decide)
              ·replace c26 := Bool.eq_false_iff.mpr c26
               subst c26
               have H1 : ((script_Bare.f 4 2 1 0 ⟨#[]⟩ ⟨#[]⟩ false 0).bind fun bt262 => (if (bt262.1 == 4 && (bt262.2.1 == 2 && (bt262.2.2.1 == 0 && (bt262.2.2.2.1 == 0 && (bt262.2.2.2.2.1.toList == ([] : List UInt8) && (bt262.2.2.2.2.2.1.toList == ([] : List UInt8) && (!bt262.2.2.2.2.2.2.1 && (bt262.2.2.2.2.2.2.2 == 0)))))))) = true then ((script_Name.f 10).bind fun t270 => (if t270.toList = ([115, 116, 97, 114, 116] : List UInt8) then ((script_Name.f 11).bind fun t271 => (if t271.toList = ([] : List UInt8) then ((script_Bare.f 11 0 3 0 ⟨#[]⟩ ⟨#[]⟩ false 0).bind fun bt272 => (some (bt272.1 == 0 && (bt272.2.1 == 0 && (bt272.2.2.1 == 0 && (bt272.2.2.2.1 == 0 && (bt272.2.2.2.2.1.toList == ([] : List UInt8) && (bt272.2.2.2.2.2.1.toList == ([] : List UInt8) && (!bt272.2.2.2.2.2.2.1 && (bt272.2.2.2.2.2.2.2 == 0)))))))))) else (some false))) else (some false))) else (some false))) = some r := by rw [if_neg (show ¬ (false = true) by decide)] at H; exact H
               clear H
               have H := H1
               clear H1
               replace H := Option.bind_eq_some_iff.mp H
               obtain ⟨⟨t262, t263, t264, t265, t266, t267, t268, t269⟩, A270, H⟩ := H
               replace H : (if (t262 == 4 && (t263 == 2 && (t264 == 0 && (t265 == 0 && (t266.toList == ([] : List UInt8) && (t267.toList == ([] : List UInt8) && (!t268 && (t269 == 0)))))))) = true then ((script_Name.f 10).bind fun t270 => (if t270.toList = ([115, 116, 97, 114, 116] : List UInt8) then ((script_Name.f 11).bind fun t271 => (if t271.toList = ([] : List UInt8) then ((script_Bare.f 11 0 3 0 ⟨#[]⟩ ⟨#[]⟩ false 0).bind fun bt272 => (some (bt272.1 == 0 && (bt272.2.1 == 0 && (bt272.2.2.1 == 0 && (bt272.2.2.2.1 == 0 && (bt272.2.2.2.2.1.toList == ([] : List UInt8) && (bt272.2.2.2.2.2.1.toList == ([] : List UInt8) && (!bt272.2.2.2.2.2.2.1 && (bt272.2.2.2.2.2.2.2 == 0)))))))))) else (some false))) else (some false))) else (some false)) = some r := H
               have A27 := Aside0.mk A270
               clear A270
               by_cases c28 : (t262 == 4 && (t263 == 2 && (t264 == 0 && (t265 == 0 && (t266.toList == ([] : List UInt8) && (t267.toList == ([] : List UInt8) && (!t268 && (t269 == 0)))))))) = true
               ·rw [if_pos c28] at H
                have c28b0 : (t262 == 4 && (t263 == 2 && (t264 == 0 && (t265 == 0 && (t266.toList == ([] : List UInt8) && (t267.toList == ([] : List UInt8) && (!t268 && (t269 == 0)))))))) = true := c28
                (try (have c28b1 : decide (t262 = 4 && (t263 == 2 && (t264 == 0 && (t265 == 0 && (t266.toList == ([] : List UInt8) && (t267.toList == ([] : List UInt8) && (!t268 && (t269 == 0)))))))) = true := by simpa using c28))
                (try (have c28b2 : (t262 == 4 && (t263 == 2 && (t264 == 0 && (t265 == 0 && (t266.toList == ([] : List UInt8) && (t267.toList == ([] : List UInt8) && (!t268 && (t269 == 0)))))))) = true := by simpa using c28))
                clear c28
                replace H := Option.bind_eq_some_iff.mp H
                obtain ⟨t270, A290, H⟩ := H
                replace H : (if t270.toList = ([115, 116, 97, 114, 116] : List UInt8) then ((script_Name.f 11).bind fun t271 => (if t271.toList = ([] : List UInt8) then ((script_Bare.f 11 0 3 0 ⟨#[]⟩ ⟨#[]⟩ false 0).bind fun bt272 => (some (bt272.1 == 0 && (bt272.2.1 == 0 && (bt272.2.2.1 == 0 && (bt272.2.2.2.1 == 0 && (bt272.2.2.2.2.1.toList == ([] : List UInt8) && (bt272.2.2.2.2.2.1.toList == ([] : List UInt8) && (!bt272.2.2.2.2.2.2.1 && (bt272.2.2.2.2.2.2.2 == 0)))))))))) else (some false))) else (some false)) = some r := H
                have A29 := Aside0.mk A290
                clear A290
                by_cases c30 : t270.toList = ([115, 116, 97, 114, 116] : List UInt8)
                ·rw [if_pos c30] at H
                 have c30b0 : (t270.toList == ([115, 116, 97, 114, 116] : List UInt8)) = true := beq_iff_eq.mpr c30
                 have c30b1 : (t270.toList != ([115, 116, 97, 114, 116] : List UInt8)) = false := bne_eq_false_iff_eq.mpr c30
                 clear c30
                 replace H := Option.bind_eq_some_iff.mp H
                 obtain ⟨t271, A310, H⟩ := H
                 replace H : (if t271.toList = ([] : List UInt8) then ((script_Bare.f 11 0 3 0 ⟨#[]⟩ ⟨#[]⟩ false 0).bind fun bt272 => (some (bt272.1 == 0 && (bt272.2.1 == 0 && (bt272.2.2.1 == 0 && (bt272.2.2.2.1 == 0 && (bt272.2.2.2.2.1.toList == ([] : List UInt8) && (bt272.2.2.2.2.2.1.toList == ([] : List UInt8) && (!bt272.2.2.2.2.2.2.1 && (bt272.2.2.2.2.2.2.2 == 0)))))))))) else (some false)) = some r := H
                 have A31 := Aside0.mk A310
                 clear A310
                 by_cases c32 : t271.toList = ([] : List UInt8)
                 ·rw [if_pos c32] at H
                  have c32b0 : (t271.toList == ([] : List UInt8)) = true := beq_iff_eq.mpr c32
                  have c32b1 : (t271.toList != ([] : List UInt8)) = false := bne_eq_false_iff_eq.mpr c32
                  clear c32
                  replace H := Option.bind_eq_some_iff.mp H
                  obtain ⟨⟨t272, t273, t274, t275, t276, t277, t278, t279⟩, A330, H⟩ := H
                  replace H : (some (t272 == 0 && (t273 == 0 && (t274 == 0 && (t275 == 0 && (t276.toList == ([] : List UInt8) && (t277.toList == ([] : List UInt8) && (!t278 && (t279 == 0))))))))) = some r := H
                  have A33 := Aside0.mk A330
                  clear A330
                  obtain rfl := Option.some.inj H
                  obtain ⟨rfl, rfl, rfl, rfl, rfl, rfl, rfl, rfl⟩ : t190 = 4 ∧ t191 = 2 ∧ t192 = 0 ∧ t193 = 0 ∧ t194 = ⟨#[]⟩ ∧ t195 = ⟨#[]⟩ ∧ t196 = false ∧ t197 = 0 := SP.same_t c9b0
                  obtain ⟨rfl, rfl, rfl, rfl, rfl, rfl, rfl, rfl⟩ : t262 = 4 ∧ t263 = 2 ∧ t264 = 0 ∧ t265 = 0 ∧ t266 = ⟨#[]⟩ ∧ t267 = ⟨#[]⟩ ∧ t268 = false ∧ t269 = 0 := SP.same_t c28b0
                  go_enter Tryd.func21, Tryd.ntmps21
                  have f0 := SP.F3.start w
                  go_wp2_with (first | (go_at_call 22; (with_reducible refine (script_Get.calls ⟨#[122, 4, 2, 122]⟩ 1 4 2 0 0 ⟨#[]⟩ ⟨#[]⟩ false 0 t198 t199 _ A1.out).mono ?_); rintro e x1 ⟨rfl, b1⟩; have f1 := f0.below b1; have f1a := f1.alloc (.cells #[.int .i64 4, .int .i64 2, .int .i64 0, .int .i64 0, .string ⟨#[]⟩, .string ⟨#[]⟩, .bool false, .int .i64 0] 23); have z00 := SW.AC.new x1 4 2 0 0 ⟨#[]⟩ ⟨#[]⟩ false 0) | (go_at_call 22; (with_reducible refine (script_Get.calls ⟨#[4, 8]⟩ 0 t201 t202 t203 t204 t205 t206 t207 t208 t209 t210 _ A2.out).mono ?_); rintro e x2 ⟨rfl, b2⟩; have f2 := f1a.below b2; have f2a := f2.alloc (.cells #[.int .i64 t201, .int .i64 t202, .int .i64 t203, .int .i64 t204, .string t205, .string t206, .bool t207, .int .i64 t208] 23); have z11 := SW.AC.new x2 t201 t202 t203 t204 t205 t206 t207 t208; have z01 := (z00.below b2).alloc (.cells #[.int .i64 t201, .int .i64 t202, .int .i64 t203, .int .i64 t204, .string t205, .string t206, .bool t207, .int .i64 t208] 23)) | (go_at_call 22; (with_reducible refine (script_Get.calls ⟨#[11]⟩ 0 t212 t213 t214 t215 t216 t217 t218 t219 t220 t221 _ A3.out).mono ?_); rintro e x3 ⟨rfl, b3⟩; have f3 := f2a.below b3; have f3a := f3.alloc (.cells #[.int .i64 t212, .int .i64 t213, .int .i64 t214, .int .i64 t215, .string t216, .string t217, .bool t218, .int .i64 t219] 23); have z22 := SW.AC.new x3 t212 t213 t214 t215 t216 t217 t218 t219; have z02 := (z01.below b3).alloc (.cells #[.int .i64 t212, .int .i64 t213, .int .i64 t214, .int .i64 t215, .string t216, .string t217, .bool t218, .int .i64 t219] 23); have z12 := (z11.below b3).alloc (.cells #[.int .i64 t212, .int .i64 t213, .int .i64 t214, .int .i64 t215, .string t216, .string t217, .bool t218, .int .i64 t219] 23)) | (go_at_call 22; (with_reducible refine (script_Get.calls ⟨#[4]⟩ 0 t223 t224 t225 t226 t227 t228 t229 t230 t231 t232 _ A4.out).mono ?_); rintro e x4 ⟨rfl, b4⟩; have f4 := f3a.below b4; have f4a := f4.alloc (.cells #[.int .i64 t223, .int .i64 t224, .int .i64 t225, .int .i64 t226, .string t227, .string t228, .bool t229, .int .i64 t230] 23); have z33 := SW.AC.new x4 t223 t224 t225 t226 t227 t228 t229 t230; have z03 := (z02.below b4).alloc (.cells #[.int .i64 t223, .int .i64 t224, .int .i64 t225, .int .i64 t226, .string t227, .string t228, .bool t229, .int .i64 t230] 23); have z13 := (z12.below b4).alloc (.cells #[.int .i64 t223, .int .i64 t224, .int .i64 t225, .int .i64 t226, .string t227, .string t228, .bool t229, .int .i64 t230] 23); have z23 := (z22.below b4).alloc (.cells #[.int .i64 t223, .int .i64 t224, .int .i64 t225, .int .i64 t226, .string t227, .string t228, .bool t229, .int .i64 t230] 23)) | (go_at_call 22; (with_reducible refine (script_Get.calls ⟨#[]⟩ 1 t234 t235 t236 t237 t238 t239 t240 t241 t242 t243 _ A5.out).mono ?_); rintro e x5 ⟨rfl, b5⟩; have f5 := f4a.below b5; have f5a := f5.alloc (.cells #[.int .i64 t234, .int .i64 t235, .int .i64 t236, .int .i64 t237, .string t238, .string t239, .bool t240, .int .i64 t241] 23); have z44 := SW.AC.new x5 t234 t235 t236 t237 t238 t239 t240 t241; have z04 := (z03.below b5).alloc (.cells #[.int .i64 t234, .int .i64 t235, .int .i64 t236, .int .i64 t237, .string t238, .string t239, .bool t240, .int .i64 t241] 23); have z14 := (z13.below b5).alloc (.cells #[.int .i64 t234, .int .i64 t235, .int .i64 t236, .int .i64 t237, .string t238, .string t239, .bool t240, .int .i64 t241] 23); have z24 := (z23.below b5).alloc (.cells #[.int .i64 t234, .int .i64 t235, .int .i64 t236, .int .i64 t237, .string t238, .string t239, .bool t240, .int .i64 t241] 23); have z34 := (z33.below b5).alloc (.cells #[.int .i64 t234, .int .i64 t235, .int .i64 t236, .int .i64 t237, .string t238, .string t239, .bool t240, .int .i64 t241] 23)) | (go_at_call 24; (with_reducible refine (script_All.calls k ⟨#[4, 2, 4, 2, 4]⟩ t245 t246 _ A6.out).mono ?_); rintro e x6 ⟨v247, rfl, ho0, b6⟩; have f6 := f5a.below b6; have y0 := z04.below b6; have y1 := z14.below b6; have y2 := z24.below b6; have y3 := z34.below b6; have y4 := z44.below b6; have c0 := f6.t.c0; have c1 := f6.t.c1; have c2 := f6.t.c2; have c3 := f6.t.c3; have c4 := f6.t.c4; have c5 := f6.t.c5; have c6 := f6.t.c6; have c7 := f6.t.c7))
                  have k1 := (f6.alloc (.cells #[.int .i64 4, .int .i64 2, .int .i64 1, .int .i64 0, .string ⟨#[]⟩, .string ⟨#[]⟩, .bool false, .int .i64 0] 23))
                  have BK187 : Aside0 ((x6.alloc (.cells #[.int .i64 4, .int .i64 2, .int .i64 1, .int .i64 0, .string ⟨#[]⟩, .string ⟨#[]⟩, .bool false, .int .i64 0] 23)).drew.heap[w.heap.size]? = some (.cells #[.int .i64 4, .int .i64 2, .int .i64 0, .int .i64 0, .string ⟨#[]⟩, .string ⟨#[]⟩, .bool false, .int .i64 0] 23 (0, 0))) := ⟨k1.t⟩
                  have BK188 : Aside0 ((x6.alloc (.cells #[.int .i64 4, .int .i64 2, .int .i64 1, .int .i64 0, .string ⟨#[]⟩, .string ⟨#[]⟩, .bool false, .int .i64 0] 23)).drew.heap[(w.heap.size + 1)]? = some (.cells #[.int .i64 0, .int .i64 1, .int .i64 3, .int .i64 0, .string (⟨#[97, 47, 98]⟩ : ByteArray), .string (⟨#[120, 121]⟩ : ByteArray), .bool false, .int .i64 9] 23 (0, 0))) := ⟨k1.p⟩
                  have BK189 : Aside0 ((x6.alloc (.cells #[.int .i64 4, .int .i64 2, .int .i64 1, .int .i64 0, .string ⟨#[]⟩, .string ⟨#[]⟩, .bool false, .int .i64 0] 23)).drew.heap[(w.heap.size + 2)]? = some (.cells #[.int .i64 3, .int .i64 0, .int .i64 1, .int .i64 0, .string (⟨#[35]⟩ : ByteArray), .string ⟨#[]⟩, .bool true, .int .i64 0] 23 (0, 0))) := ⟨k1.q⟩
                  have BK200 : Aside0 ((x6.alloc (.cells #[.int .i64 4, .int .i64 2, .int .i64 1, .int .i64 0, .string ⟨#[]⟩, .string ⟨#[]⟩, .bool false, .int .i64 0] 23)).drew.heap[x1.heap.size]? = some (.cells #[.int .i64 4, .int .i64 2, .int .i64 0, .int .i64 0, .string ⟨#[]⟩, .string ⟨#[]⟩, .bool false, .int .i64 0] 23 (0, 0))) := ⟨y0.alloc _⟩
                  have BK211 : Aside0 ((x6.alloc (.cells #[.int .i64 4, .int .i64 2, .int .i64 1, .int .i64 0, .string ⟨#[]⟩, .string ⟨#[]⟩, .bool false, .int .i64 0] 23)).drew.heap[x2.heap.size]? = some (.cells #[.int .i64 t201, .int .i64 t202, .int .i64 t203, .int .i64 t204, .string t205, .string t206, .bool t207, .int .i64 t208] 23 (0, 0))) := ⟨y1.alloc _⟩
                  have BK222 : Aside0 ((x6.alloc (.cells #[.int .i64 4, .int .i64 2, .int .i64 1, .int .i64 0, .string ⟨#[]⟩, .string ⟨#[]⟩, .bool false, .int .i64 0] 23)).drew.heap[x3.heap.size]? = some (.cells #[.int .i64 t212, .int .i64 t213, .int .i64 t214, .int .i64 t215, .string t216, .string t217, .bool t218, .int .i64 t219] 23 (0, 0))) := ⟨y2.alloc _⟩
                  have BK233 : Aside0 ((x6.alloc (.cells #[.int .i64 4, .int .i64 2, .int .i64 1, .int .i64 0, .string ⟨#[]⟩, .string ⟨#[]⟩, .bool false, .int .i64 0] 23)).drew.heap[x4.heap.size]? = some (.cells #[.int .i64 t223, .int .i64 t224, .int .i64 t225, .int .i64 t226, .string t227, .string t228, .bool t229, .int .i64 t230] 23 (0, 0))) := ⟨y3.alloc _⟩
                  have BK244 : Aside0 ((x6.alloc (.cells #[.int .i64 4, .int .i64 2, .int .i64 1, .int .i64 0, .string ⟨#[]⟩, .string ⟨#[]⟩, .bool false, .int .i64 0] 23)).drew.heap[x5.heap.size]? = some (.cells #[.int .i64 t234, .int .i64 t235, .int .i64 t236, .int .i64 t237, .string t238, .string t239, .bool t240, .int .i64 t241] 23 (0, 0))) := ⟨y4.alloc _⟩
                  have BK249 : Aside0 ((x6.alloc (.cells #[.int .i64 4, .int .i64 2, .int .i64 1, .int .i64 0, .string ⟨#[]⟩, .string ⟨#[]⟩, .bool false, .int .i64 0] 23)).drew.heap[x6.heap.size]? = some (.cells #[.int .i64 4, .int .i64 2, .int .i64 1, .int .i64 0, .string ⟨#[]⟩, .string ⟨#[]⟩, .bool false, .int .i64 0] 23 (0, 0))) := ⟨SW.AC.new x6 4 2 1 0 ⟨#[]⟩ ⟨#[]⟩ false 0⟩
                  have HB : Aside0 (Below w.heap.size w (x6.alloc (.cells #[.int .i64 4, .int .i64 2, .int .i64 1, .int .i64 0, .string ⟨#[]⟩, .string ⟨#[]⟩, .bool false, .int .i64 0] 23)).drew) := ⟨k1.b.drew⟩
                  have HO248 := Aside0.mk (Kd.R_lower (Kd.R_drew (Kd.R_alloc ho0 (.cells #[.int .i64 4, .int .i64 2, .int .i64 1, .int .i64 0, .string ⟨#[]⟩, .string ⟨#[]⟩, .bool false, .int .i64 0] 23))) f5a.b.size)
                  refine start_ (n := 88) (S := fun w' => w'.cell? ⟨w.heap.size, 0, none⟩ = some (.int .i64 4) ∧ w'.cell? ⟨w.heap.size, 1, none⟩ = some (.int .i64 2) ∧ w'.cell? ⟨w.heap.size, 2, none⟩ = some (.int .i64 0) ∧ w'.cell? ⟨w.heap.size, 3, none⟩ = some (.int .i64 0) ∧ w'.cell? ⟨w.heap.size, 4, none⟩ = some (.string ⟨#[]⟩) ∧ w'.cell? ⟨w.heap.size, 5, none⟩ = some (.string ⟨#[]⟩) ∧ w'.cell? ⟨w.heap.size, 6, none⟩ = some (.bool false) ∧ w'.cell? ⟨w.heap.size, 7, none⟩ = some (.int .i64 0) ∧ w'.cell? ⟨x1.heap.size, 0, none⟩ = some (.int .i64 4) ∧ w'.cell? ⟨x1.heap.size, 1, none⟩ = some (.int .i64 2) ∧ w'.cell? ⟨x1.heap.size, 2, none⟩ = some (.int .i64 0) ∧ w'.cell? ⟨x1.heap.size, 3, none⟩ = some (.int .i64 0) ∧ w'.cell? ⟨x1.heap.size, 4, none⟩ = some (.string ⟨#[]⟩) ∧ w'.cell? ⟨x1.heap.size, 5, none⟩ = some (.string ⟨#[]⟩) ∧ w'.cell? ⟨x1.heap.size, 6, none⟩ = some (.bool false) ∧ w'.cell? ⟨x1.heap.size, 7, none⟩ = some (.int .i64 0) ∧ w'.cell? ⟨(w.heap.size + 1), 0, none⟩ = some (.int .i64 0) ∧ w'.cell? ⟨(w.heap.size + 1), 1, none⟩ = some (.int .i64 1) ∧ w'.cell? ⟨(w.heap.size + 1), 2, none⟩ = some (.int .i64 3) ∧ w'.cell? ⟨(w.heap.size + 1), 3, none⟩ = some (.int .i64 0) ∧ w'.cell? ⟨(w.heap.size + 1), 4, none⟩ = some (.string ⟨#[97, 47, 98]⟩) ∧ w'.cell? ⟨(w.heap.size + 1), 5, none⟩ = some (.string ⟨#[120, 121]⟩) ∧ w'.cell? ⟨(w.heap.size + 1), 6, none⟩ = some (.bool false) ∧ w'.cell? ⟨(w.heap.size + 1), 7, none⟩ = some (.int .i64 9) ∧ w'.cell? ⟨(w.heap.size + 2), 0, none⟩ = some (.int .i64 3) ∧ w'.cell? ⟨(w.heap.size + 2), 1, none⟩ = some (.int .i64 0) ∧ w'.cell? ⟨(w.heap.size + 2), 2, none⟩ = some (.int .i64 1) ∧ w'.cell? ⟨(w.heap.size + 2), 3, none⟩ = some (.int .i64 0) ∧ w'.cell? ⟨(w.heap.size + 2), 4, none⟩ = some (.string ⟨#[35]⟩) ∧ w'.cell? ⟨(w.heap.size + 2), 5, none⟩ = some (.string ⟨#[]⟩) ∧ w'.cell? ⟨(w.heap.size + 2), 6, none⟩ = some (.bool true) ∧ w'.cell? ⟨(w.heap.size + 2), 7, none⟩ = some (.int .i64 0) ∧ w'.cell? ⟨x6.heap.size, 0, none⟩ = some (.int .i64 4) ∧ w'.cell? ⟨x6.heap.size, 1, none⟩ = some (.int .i64 2) ∧ w'.cell? ⟨x6.heap.size, 2, none⟩ = some (.int .i64 1) ∧ w'.cell? ⟨x6.heap.size, 3, none⟩ = some (.int .i64 0) ∧ w'.cell? ⟨x6.heap.size, 4, none⟩ = some (.string ⟨#[]⟩) ∧ w'.cell? ⟨x6.heap.size, 5, none⟩ = some (.string ⟨#[]⟩) ∧ w'.cell? ⟨x6.heap.size, 6, none⟩ = some (.bool false) ∧ w'.cell? ⟨x6.heap.size, 7, none⟩ = some (.int .i64 0)) (ds := []) (List.toArray (List.replicate 88 false)) (by kernel_rfl) rfl rfl (and8 BK187.out (and8 BK200.out (and8 BK188.out (and8 BK189.out (last8 BK249.out))))) (fun hHeld => ?_); refine with_tabW rivuletlaw23_fixed.tab12 rivuletlaw23_fixed.bits12 (fun HT_ HW_ => ?_)
                  generalize (x6.alloc (.cells #[.int .i64 4, .int .i64 2, .int .i64 1, .int .i64 0, .string ⟨#[]⟩, .string ⟨#[]⟩, .bool false, .int .i64 0] 23)).drew = w96 at HO248 BK187 BK188 BK189 BK200 BK211 BK222 BK233 BK244 BK249 HB hHeld ⊢
                  refine take_ (i := 0) (N := some 56) (v := ?_) (a' := ?_) (List.toArray ([true] ++ List.replicate 87 false)) rfl rfl (take_ofW HT_.out HW_.out (by kernel_rfl)) (fun _ _ _ h => h) (Or.inl ⟨by rfl, ?_⟩) hHeld ?_ ?_
                  rotate_left
                  ·rintro w' ⟨s0, s1, s2, s3, s4, s5, s6, s7, s8, s9, s10, s11, s12, s13, s14, s15, s16, s17, s18, s19, s20, s21, s22, s23, s24, s25, s26, s27, s28, s29, s30, s31, s32, s33, s34, s35, s36, s37, s38, s39⟩
                   go_simp
                   with_reducible rfl
                  rotate_left
                  ·simp only [Act.put, List.setIfInBounds_toArray, List.set_cons_zero, List.set_cons_succ, i64_w, i32_w]
                   rfl
                  refine one_ (i := 1) (N := some 57) (List.toArray ([true, true] ++ List.replicate 86 false)) rfl rfl (one_of HT_.out (by kernel_rfl)) (by decide) (fun K hK => ?_)
                  refine goes_ Tryd.func15 (by kernel_rfl) rfl #[.agg #[.int .i64 4, .int .i64 2, .int .i64 0, .int .i64 0, .string ⟨#[]⟩, .string ⟨#[]⟩, .bool false, .int .i64 0]] (by rfl) rfl rfl (by (try simp only [List.map_toArray, List.map_cons, List.map_nil]); first | done | rfl | (simp only [List.length_drop, List.length_take]; rfl)) ?_
                  with_reducible refine (script_Put.calls 4 2 0 0 ⟨#[]⟩ ⟨#[]⟩ false 0 t250 _ A7.out).mono ?_
                  rintro e w97 ⟨rfl, hb⟩
                  refine ⟨_, rfl, ?_⟩
                  have n0_ := Aside0.mk (Kd.R_below (by (with_reducible repeat (first | apply Kd.R_alloc | apply Kd.R_drewN | apply Kd.R_drew)); exact HO248.out) hb)
                  have n1_ := Aside0.mk (blk_below (g := w.heap.size) (o := .cells #[.int .i64 4, .int .i64 2, .int .i64 0, .int .i64 0, .string ⟨#[]⟩, .string ⟨#[]⟩, .bool false, .int .i64 0] 23 (0, 0)) (by (with_reducible repeat (first | refine blk_drewN ?_ _ | refine blk_drew ?_ | refine blk_alloc ?_ _)); exact BK187.out) hb)
                  have n2_ := Aside0.mk (blk_below (g := (w.heap.size + 1)) (o := .cells #[.int .i64 0, .int .i64 1, .int .i64 3, .int .i64 0, .string (⟨#[97, 47, 98]⟩ : ByteArray), .string (⟨#[120, 121]⟩ : ByteArray), .bool false, .int .i64 9] 23 (0, 0)) (by (with_reducible repeat (first | refine blk_drewN ?_ _ | refine blk_drew ?_ | refine blk_alloc ?_ _)); exact BK188.out) hb)
                  have n3_ := Aside0.mk (blk_below (g := (w.heap.size + 2)) (o := .cells #[.int .i64 3, .int .i64 0, .int .i64 1, .int .i64 0, .string (⟨#[35]⟩ : ByteArray), .string ⟨#[]⟩, .bool true, .int .i64 0] 23 (0, 0)) (by (with_reducible repeat (first | refine blk_drewN ?_ _ | refine blk_drew ?_ | refine blk_alloc ?_ _)); exact BK189.out) hb)
                  have n4_ := Aside0.mk (blk_below (g := x1.heap.size) (o := .cells #[.int .i64 4, .int .i64 2, .int .i64 0, .int .i64 0, .string ⟨#[]⟩, .string ⟨#[]⟩, .bool false, .int .i64 0] 23 (0, 0)) (by (with_reducible repeat (first | refine blk_drewN ?_ _ | refine blk_drew ?_ | refine blk_alloc ?_ _)); exact BK200.out) hb)
                  have n5_ := Aside0.mk (blk_below (g := x2.heap.size) (o := .cells #[.int .i64 t201, .int .i64 t202, .int .i64 t203, .int .i64 t204, .string t205, .string t206, .bool t207, .int .i64 t208] 23 (0, 0)) (by (with_reducible repeat (first | refine blk_drewN ?_ _ | refine blk_drew ?_ | refine blk_alloc ?_ _)); exact BK211.out) hb)
                  have n6_ := Aside0.mk (blk_below (g := x3.heap.size) (o := .cells #[.int .i64 t212, .int .i64 t213, .int .i64 t214, .int .i64 t215, .string t216, .string t217, .bool t218, .int .i64 t219] 23 (0, 0)) (by (with_reducible repeat (first | refine blk_drewN ?_ _ | refine blk_drew ?_ | refine blk_alloc ?_ _)); exact BK222.out) hb)
                  have n7_ := Aside0.mk (blk_below (g := x4.heap.size) (o := .cells #[.int .i64 t223, .int .i64 t224, .int .i64 t225, .int .i64 t226, .string t227, .string t228, .bool t229, .int .i64 t230] 23 (0, 0)) (by (with_reducible repeat (first | refine blk_drewN ?_ _ | refine blk_drew ?_ | refine blk_alloc ?_ _)); exact BK233.out) hb)
                  have n8_ := Aside0.mk (blk_below (g := x5.heap.size) (o := .cells #[.int .i64 t234, .int .i64 t235, .int .i64 t236, .int .i64 t237, .string t238, .string t239, .bool t240, .int .i64 t241] 23 (0, 0)) (by (with_reducible repeat (first | refine blk_drewN ?_ _ | refine blk_drew ?_ | refine blk_alloc ?_ _)); exact BK244.out) hb)
                  have n9_ := Aside0.mk (blk_below (g := x6.heap.size) (o := .cells #[.int .i64 4, .int .i64 2, .int .i64 1, .int .i64 0, .string ⟨#[]⟩, .string ⟨#[]⟩, .bool false, .int .i64 0] 23 (0, 0)) (by (with_reducible repeat (first | refine blk_drewN ?_ _ | refine blk_drew ?_ | refine blk_alloc ?_ _)); exact BK249.out) hb)
                  have n10_ := Aside0.mk (below_step (by repeat (first | (with_reducible first | exact HB.out | apply below_alloc | apply pw_below_drewN | apply below_drew1) | exact HB.out)) hb)
                  clear HO248
                  clear BK187
                  clear BK188
                  clear BK189
                  clear BK200
                  clear BK211
                  clear BK222
                  clear BK233
                  clear BK244
                  clear BK249
                  clear HB
                  have HO248 := n0_
                  have BK187 := n1_
                  have BK188 := n2_
                  have BK189 := n3_
                  have BK200 := n4_
                  have BK211 := n5_
                  have BK222 := n6_
                  have BK233 := n7_
                  have BK244 := n8_
                  have BK249 := n9_
                  have HB := n10_
                  clear n0_ n1_ n2_ n3_ n4_ n5_ n6_ n7_ n8_ n9_ n10_
                  (try clear hb)
                  (try clear hb2)
                  (try clear hk)
                  (try clear hi)
                  refine hK.out _ _ (and8 BK187.out (and8 BK200.out (and8 BK188.out (and8 BK189.out (last8 BK249.out))))) (fun hHeld => ?_)
                  clear hK K
                  refine norm_ (a' := ?_) ?_ ?_
                  rotate_left
                  ·show Act.put _ (some 57) _ = _
                   simp only [Act.put, List.setIfInBounds_toArray, List.set_cons_zero, List.set_cons_succ, i64_w, i32_w]
                   rfl
                  refine pure_ (i := 2) (N := some 58) (v := ?_) (a' := ?_) (List.toArray ([true, true, true] ++ List.replicate 85 false)) rfl rfl (any_of HT_.out (by kernel_rfl)) (fun _ _ _ h => h) (Or.inl ⟨by rfl, ?_⟩) ?_ ?_
                  rotate_left
                  ·intro w'
                   go_simp
                   with_reducible rfl
                  rotate_left
                  ·simp only [Act.put, List.setIfInBounds_toArray, List.set_cons_zero, List.set_cons_succ, i64_w, i32_w]
                   rfl
                  refine pure_ (i := 3) (N := some 59) (v := ?_) (a' := ?_) (List.toArray ([true, true, true, true] ++ List.replicate 84 false)) rfl rfl (any_of HT_.out (by kernel_rfl)) (fun _ _ _ h => h) (Or.inl ⟨by rfl, ?_⟩) ?_ ?_
                  rotate_left
                  ·intro w'
                   go_simp
                   with_reducible rfl
                  rotate_left
                  ·simp only [Act.put, List.setIfInBounds_toArray, List.set_cons_zero, List.set_cons_succ, i64_w, i32_w]
                   rfl
                  refine take_ (i := 4) (N := some 60) (v := ?_) (a' := ?_) (List.toArray ([true, true, true, true, true] ++ List.replicate 83 false)) rfl rfl (take_ofW HT_.out HW_.out (by kernel_rfl)) (fun _ _ _ h => h) (Or.inl ⟨by rfl, ?_⟩) hHeld ?_ ?_
                  rotate_left
                  ·rintro w' ⟨s0, s1, s2, s3, s4, s5, s6, s7, s8, s9, s10, s11, s12, s13, s14, s15, s16, s17, s18, s19, s20, s21, s22, s23, s24, s25, s26, s27, s28, s29, s30, s31, s32, s33, s34, s35, s36, s37, s38, s39⟩
                   go_simp
                   with_reducible rfl
                  rotate_left
                  ·simp only [Act.put, List.setIfInBounds_toArray, List.set_cons_zero, List.set_cons_succ, i64_w, i32_w]
                   rfl
                  refine take_ (i := 5) (N := some 61) (v := ?_) (a' := ?_) (List.toArray ([true, true, true, true, true, true] ++ List.replicate 82 false)) rfl rfl (take_ofW HT_.out HW_.out (by kernel_rfl)) (fun _ _ _ h => h) (Or.inl ⟨by rfl, ?_⟩) hHeld ?_ ?_
                  rotate_left
                  ·rintro w' ⟨s0, s1, s2, s3, s4, s5, s6, s7, s8, s9, s10, s11, s12, s13, s14, s15, s16, s17, s18, s19, s20, s21, s22, s23, s24, s25, s26, s27, s28, s29, s30, s31, s32, s33, s34, s35, s36, s37, s38, s39⟩
                   go_simp
                   with_reducible rfl
                  rotate_left
                  ·simp only [Act.put, List.setIfInBounds_toArray, List.set_cons_zero, List.set_cons_succ, i64_w, i32_w]
                   rfl
                  refine pure_ (i := 6) (N := some 62) (v := ?_) (a' := ?_) (List.toArray ([true, true, true, true, true, true, true] ++ List.replicate 81 false)) rfl rfl (any_of HT_.out (by kernel_rfl)) (fun _ _ _ h => h) (Or.inl ⟨by rfl, ?_⟩) ?_ ?_
                  rotate_left
                  ·intro w'
                   go_simp
                   with_reducible rfl
                  rotate_left
                  ·simp only [Act.put, List.setIfInBounds_toArray, List.set_cons_zero, List.set_cons_succ, i64_w, i32_w]
                   rfl
                  refine pure_ (i := 7) (N := some 63) (v := ?_) (a' := ?_) (List.toArray ([true, true, true, true, true, true, true, true] ++ List.replicate 80 false)) rfl rfl (any_of HT_.out (by kernel_rfl)) (fun _ _ _ h => h) (Or.inl ⟨by rfl, ?_⟩) ?_ ?_
                  rotate_left
                  ·intro w'
                   go_simp
                   with_reducible rfl
                  rotate_left
                  ·simp only [Act.put, List.setIfInBounds_toArray, List.set_cons_zero, List.set_cons_succ, i64_w, i32_w]
                   rfl
                  refine pure_ (i := 8) (N := some 64) (v := ?_) (a' := ?_) (List.toArray ([true, true, true, true, true, true, true, true, true] ++ List.replicate 79 false)) rfl rfl (any_of HT_.out (by kernel_rfl)) (fun _ _ _ h => h) (Or.inl ⟨by rfl, ?_⟩) ?_ ?_
                  rotate_left
                  ·intro w'
                   go_simp
                   with_reducible rfl
                  rotate_left
                  ·simp only [Act.put, List.setIfInBounds_toArray, List.set_cons_zero, List.set_cons_succ, i64_w, i32_w]
                   rfl
                  refine pure_ (i := 9) (N := some 65) (v := ?_) (a' := ?_) (List.toArray (List.replicate 10 true ++ List.replicate 78 false)) rfl rfl (any_of HT_.out (by kernel_rfl)) (fun _ _ _ h => h) (Or.inl ⟨by rfl, ?_⟩) ?_ ?_
                  rotate_left
                  ·intro w'
                   go_simp
                   with_reducible rfl
                  rotate_left
                  ·simp only [Act.put, List.setIfInBounds_toArray, List.set_cons_zero, List.set_cons_succ, i64_w, i32_w]
                   rfl
                  refine pure_ (i := 10) (N := some 66) (v := ?_) (a' := ?_) (List.toArray (List.replicate 11 true ++ List.replicate 77 false)) rfl rfl (any_of HT_.out (by kernel_rfl)) (fun _ _ _ h => h) (Or.inl ⟨by rfl, ?_⟩) ?_ ?_
                  rotate_left
                  ·intro w'
                   go_simp
                   with_reducible rfl
                  rotate_left
                  ·simp only [Act.put, List.setIfInBounds_toArray, List.set_cons_zero, List.set_cons_succ, i64_w, i32_w]
                   rfl
                  refine pure_ (i := 11) (N := some 67) (v := ?_) (a' := ?_) (List.toArray (List.replicate 12 true ++ List.replicate 76 false)) rfl rfl (any_of HT_.out (by kernel_rfl)) (fun _ _ _ h => h) (Or.inl ⟨by rfl, ?_⟩) ?_ ?_
                  rotate_left
                  ·intro w'
                   go_simp
                   with_reducible rfl
                  rotate_left
                  ·simp only [Act.put, List.setIfInBounds_toArray, List.set_cons_zero, List.set_cons_succ, i64_w, i32_w]
                   rfl
                  refine pure_ (i := 12) (N := some 68) (v := ?_) (a' := ?_) (List.toArray (List.replicate 13 true ++ List.replicate 75 false)) rfl rfl (any_of HT_.out (by kernel_rfl)) (fun _ _ _ h => h) (Or.inl ⟨by rfl, ?_⟩) ?_ ?_
                  rotate_left
                  ·intro w'
                   go_simp
                   with_reducible rfl
                  rotate_left
                  ·simp only [Act.put, List.setIfInBounds_toArray, List.set_cons_zero, List.set_cons_succ, i64_w, i32_w]
                   rfl
                  refine pure_ (i := 13) (N := some 69) (v := ?_) (a' := ?_) (List.toArray (List.replicate 14 true ++ List.replicate 74 false)) rfl rfl (any_of HT_.out (by kernel_rfl)) (fun _ _ _ h => h) (Or.inl ⟨by rfl, ?_⟩) ?_ ?_
                  rotate_left
                  ·intro w'
                   go_simp
                   with_reducible rfl
                  rotate_left
                  ·simp only [Act.put, List.setIfInBounds_toArray, List.set_cons_zero, List.set_cons_succ, i64_w, i32_w]
                   rfl
                  refine pure_ (i := 14) (N := some 70) (v := ?_) (a' := ?_) (List.toArray (List.replicate 15 true ++ List.replicate 73 false)) rfl rfl (any_of HT_.out (by kernel_rfl)) (fun _ _ _ h => h) (Or.inl ⟨by rfl, ?_⟩) ?_ ?_
                  rotate_left
                  ·intro w'
                   go_simp
                   with_reducible rfl
                  rotate_left
                  ·simp only [Act.put, List.setIfInBounds_toArray, List.set_cons_zero, List.set_cons_succ, i64_w, i32_w]
                   rfl
                  refine pure_ (i := 15) (N := some 71) (v := ?_) (a' := ?_) (List.toArray (List.replicate 16 true ++ List.replicate 72 false)) rfl rfl (any_of HT_.out (by kernel_rfl)) (fun _ _ _ h => h) (Or.inl ⟨by rfl, ?_⟩) ?_ ?_
                  rotate_left
                  ·intro w'
                   go_simp
                   with_reducible rfl
                  rotate_left
                  ·simp only [Act.put, List.setIfInBounds_toArray, List.set_cons_zero, List.set_cons_succ, i64_w, i32_w]
                   rfl
                  refine pure_ (i := 16) (N := some 72) (v := ?_) (a' := ?_) (List.toArray (List.replicate 17 true ++ List.replicate 71 false)) rfl rfl (any_of HT_.out (by kernel_rfl)) (fun _ _ _ h => h) (Or.inl ⟨by rfl, ?_⟩) ?_ ?_
                  rotate_left
                  ·intro w'
                   go_simp
                   with_reducible rfl
                  rotate_left
                  ·simp only [Act.put, List.setIfInBounds_toArray, List.set_cons_zero, List.set_cons_succ, i64_w, i32_w]
                   rfl
                  refine pure_ (i := 17) (N := some 73) (v := ?_) (a' := ?_) (List.toArray (List.replicate 18 true ++ List.replicate 70 false)) rfl rfl (any_of HT_.out (by kernel_rfl)) (fun _ _ _ h => h) (Or.inl ⟨by rfl, ?_⟩) ?_ ?_
                  rotate_left
                  ·intro w'
                   go_simp
                   with_reducible rfl
                  rotate_left
                  ·simp only [Act.put, List.setIfInBounds_toArray, List.set_cons_zero, List.set_cons_succ, i64_w, i32_w]
                   rfl
                  refine pure_ (i := 18) (N := some 74) (v := ?_) (a' := ?_) (List.toArray (List.replicate 19 true ++ List.replicate 69 false)) rfl rfl (any_of HT_.out (by kernel_rfl)) (fun _ _ _ h => h) (Or.inl ⟨by rfl, ?_⟩) ?_ ?_
                  rotate_left
                  ·intro w'
                   go_simp
                   with_reducible rfl
                  rotate_left
                  ·simp only [Act.put, List.setIfInBounds_toArray, List.set_cons_zero, List.set_cons_succ, i64_w, i32_w]
                   rfl
                  refine pure_ (i := 19) (N := some 75) (v := ?_) (a' := ?_) (List.toArray (List.replicate 20 true ++ List.replicate 68 false)) rfl rfl (any_of HT_.out (by kernel_rfl)) (fun _ _ _ h => h) (Or.inl ⟨by rfl, ?_⟩) ?_ ?_
                  rotate_left
                  ·intro w'
                   go_simp
                   with_reducible rfl
                  rotate_left
                  ·simp only [Act.put, List.setIfInBounds_toArray, List.set_cons_zero, List.set_cons_succ, i64_w, i32_w]
                   rfl
                  refine pure_ (i := 20) (N := some 76) (v := ?_) (a' := ?_) (List.toArray (List.replicate 21 true ++ List.replicate 67 false)) rfl rfl (any_of HT_.out (by kernel_rfl)) (fun _ _ _ h => h) (Or.inl ⟨by rfl, ?_⟩) ?_ ?_
                  rotate_left
                  ·intro w'
                   go_simp
                   with_reducible rfl
                  rotate_left
                  ·simp only [Act.put, List.setIfInBounds_toArray, List.set_cons_zero, List.set_cons_succ, i64_w, i32_w]
                   rfl
                  refine pure_ (i := 21) (N := some 77) (v := ?_) (a' := ?_) (List.toArray (List.replicate 22 true ++ List.replicate 66 false)) rfl rfl (any_of HT_.out (by kernel_rfl)) (fun _ _ _ h => h) (Or.inl ⟨by rfl, ?_⟩) ?_ ?_
                  rotate_left
                  ·intro w'
                   go_simp
                   with_reducible rfl
                  rotate_left
                  ·simp only [Act.put, List.setIfInBounds_toArray, List.set_cons_zero, List.set_cons_succ, i64_w, i32_w]
                   rfl
                  refine pure_ (i := 22) (N := some 78) (v := ?_) (a' := ?_) (List.toArray (List.replicate 23 true ++ List.replicate 65 false)) rfl rfl (any_of HT_.out (by kernel_rfl)) (fun _ _ _ h => h) (Or.inl ⟨by rfl, ?_⟩) ?_ ?_
                  rotate_left
                  ·intro w'
                   go_simp
                   with_reducible rfl
                  rotate_left
                  ·simp only [Act.put, List.setIfInBounds_toArray, List.set_cons_zero, List.set_cons_succ, i64_w, i32_w]
                   rfl
                  refine pure_ (i := 23) (N := some 79) (v := ?_) (a' := ?_) (List.toArray (List.replicate 24 true ++ List.replicate 64 false)) rfl rfl (any_of HT_.out (by kernel_rfl)) (fun _ _ _ h => h) (Or.inl ⟨by rfl, ?_⟩) ?_ ?_
                  rotate_left
                  ·intro w'
                   go_simp
                   with_reducible rfl
                  rotate_left
                  ·simp only [Act.put, List.setIfInBounds_toArray, List.set_cons_zero, List.set_cons_succ, i64_w, i32_w]
                   rfl
                  refine pure_ (i := 24) (N := some 80) (v := ?_) (a' := ?_) (List.toArray (List.replicate 25 true ++ List.replicate 63 false)) rfl rfl (any_of HT_.out (by kernel_rfl)) (fun _ _ _ h => h) (Or.inl ⟨by rfl, ?_⟩) ?_ ?_
                  rotate_left
                  ·intro w'
                   go_simp
                   with_reducible rfl
                  rotate_left
                  ·simp only [Act.put, List.setIfInBounds_toArray, List.set_cons_zero, List.set_cons_succ, i64_w, i32_w]
                   rfl
                  refine pure_ (i := 25) (N := some 81) (v := ?_) (a' := ?_) (List.toArray (List.replicate 26 true ++ List.replicate 62 false)) rfl rfl (any_of HT_.out (by kernel_rfl)) (fun _ _ _ h => h) (Or.inl ⟨by rfl, ?_⟩) ?_ ?_
                  rotate_left
                  ·intro w'
                   go_simp
                   with_reducible rfl
                  rotate_left
                  ·simp only [Act.put, List.setIfInBounds_toArray, List.set_cons_zero, List.set_cons_succ, i64_w, i32_w]
                   rfl
                  refine pure_ (i := 26) (N := some 82) (v := ?_) (a' := ?_) (List.toArray (List.replicate 27 true ++ List.replicate 61 false)) rfl rfl (any_of HT_.out (by kernel_rfl)) (fun _ _ _ h => h) (Or.inl ⟨by rfl, ?_⟩) ?_ ?_
                  rotate_left
                  ·intro w'
                   go_simp
                   with_reducible rfl
                  rotate_left
                  ·simp only [Act.put, List.setIfInBounds_toArray, List.set_cons_zero, List.set_cons_succ, i64_w, i32_w]
                   rfl
                  refine pure_ (i := 27) (N := some 83) (v := ?_) (a' := ?_) (List.toArray (List.replicate 28 true ++ List.replicate 60 false)) rfl rfl (any_of HT_.out (by kernel_rfl)) (fun _ _ _ h => h) (Or.inl ⟨by rfl, ?_⟩) ?_ ?_
                  rotate_left
                  ·intro w'
                   go_simp
                   with_reducible rfl
                  rotate_left
                  ·simp only [Act.put, List.setIfInBounds_toArray, List.set_cons_zero, List.set_cons_succ, i64_w, i32_w]
                   rfl
                  refine pure_ (i := 28) (N := some 84) (v := ?_) (a' := ?_) (List.toArray (List.replicate 29 true ++ List.replicate 59 false)) rfl rfl (any_of HT_.out (by kernel_rfl)) (fun _ _ _ h => h) (Or.inl ⟨by rfl, ?_⟩) ?_ ?_
                  rotate_left
                  ·intro w'
                   go_simp
                   with_reducible rfl
                  rotate_left
                  ·simp only [Act.put, List.setIfInBounds_toArray, List.set_cons_zero, List.set_cons_succ, i64_w, i32_w]
                   rfl
                  refine pure_ (i := 29) (N := some 85) (v := ?_) (a' := ?_) (List.toArray (List.replicate 30 true ++ List.replicate 58 false)) rfl rfl (any_of HT_.out (by kernel_rfl)) (fun _ _ _ h => h) (Or.inl ⟨by rfl, ?_⟩) ?_ ?_
                  rotate_left
                  ·intro w'
                   go_simp
                   with_reducible rfl
                  rotate_left
                  ·simp only [Act.put, List.setIfInBounds_toArray, List.set_cons_zero, List.set_cons_succ, i64_w, i32_w]
                   rfl
                  refine pure_ (i := 30) (N := some 86) (v := ?_) (a' := ?_) (List.toArray (List.replicate 31 true ++ List.replicate 57 false)) rfl rfl (any_of HT_.out (by kernel_rfl)) (fun _ _ _ h => h) (Or.inl ⟨by rfl, ?_⟩) ?_ ?_
                  rotate_left
                  ·intro w'
                   go_simp
                   with_reducible rfl
                  rotate_left
                  ·simp only [Act.put, List.setIfInBounds_toArray, List.set_cons_zero, List.set_cons_succ, i64_w, i32_w]
                   rfl
                  refine pure_ (i := 31) (N := some 87) (v := ?_) (a' := ?_) (List.toArray (List.replicate 32 true ++ List.replicate 56 false)) rfl rfl (any_of HT_.out (by kernel_rfl)) (fun _ _ _ h => h) (Or.inl ⟨by rfl, ?_⟩) ?_ ?_
                  rotate_left
                  ·intro w'
                   go_simp
                   with_reducible rfl
                  rotate_left
                  ·simp only [Act.put, List.setIfInBounds_toArray, List.set_cons_zero, List.set_cons_succ, i64_w, i32_w]
                   rfl
                  refine pure_ (i := 32) (N := some 88) (v := ?_) (a' := ?_) (List.toArray (List.replicate 33 true ++ List.replicate 55 false)) rfl rfl (any_of HT_.out (by kernel_rfl)) (fun _ _ _ h => h) (Or.inl ⟨by rfl, ?_⟩) ?_ ?_
                  rotate_left
                  ·intro w'
                   go_simp
                   with_reducible rfl
                  rotate_left
                  ·simp only [Act.put, List.setIfInBounds_toArray, List.set_cons_zero, List.set_cons_succ, i64_w, i32_w]
                   rfl
                  refine pure_ (i := 33) (N := some 89) (v := ?_) (a' := ?_) (List.toArray (List.replicate 34 true ++ List.replicate 54 false)) rfl rfl (any_of HT_.out (by kernel_rfl)) (fun _ _ _ h => h) (Or.inl ⟨by rfl, ?_⟩) ?_ ?_
                  rotate_left
                  ·intro w'
                   go_simp
                   with_reducible rfl
                  rotate_left
                  ·simp only [Act.put, List.setIfInBounds_toArray, List.set_cons_zero, List.set_cons_succ, i64_w, i32_w]
                   rfl
                  refine take_ (i := 34) (N := some 90) (v := ?_) (a' := ?_) (List.toArray (List.replicate 35 true ++ List.replicate 53 false)) rfl rfl (take_ofW HT_.out HW_.out (by kernel_rfl)) (fun _ _ _ h => h) (Or.inl ⟨by rfl, ?_⟩) hHeld ?_ ?_
                  rotate_left
                  ·rintro w' ⟨s0, s1, s2, s3, s4, s5, s6, s7, s8, s9, s10, s11, s12, s13, s14, s15, s16, s17, s18, s19, s20, s21, s22, s23, s24, s25, s26, s27, s28, s29, s30, s31, s32, s33, s34, s35, s36, s37, s38, s39⟩
                   go_simp
                   with_reducible rfl
                  rotate_left
                  ·simp only [Act.put, List.setIfInBounds_toArray, List.set_cons_zero, List.set_cons_succ, i64_w, i32_w]
                   rfl
                  refine take_ (i := 35) (N := some 91) (v := ?_) (a' := ?_) (List.toArray (List.replicate 36 true ++ List.replicate 52 false)) rfl rfl (take_ofW HT_.out HW_.out (by kernel_rfl)) (fun _ _ _ h => h) (Or.inl ⟨by rfl, ?_⟩) hHeld ?_ ?_
                  rotate_left
                  ·rintro w' ⟨s0, s1, s2, s3, s4, s5, s6, s7, s8, s9, s10, s11, s12, s13, s14, s15, s16, s17, s18, s19, s20, s21, s22, s23, s24, s25, s26, s27, s28, s29, s30, s31, s32, s33, s34, s35, s36, s37, s38, s39⟩
                   go_simp
                   with_reducible rfl
                  rotate_left
                  ·simp only [Act.put, List.setIfInBounds_toArray, List.set_cons_zero, List.set_cons_succ, i64_w, i32_w]
                   rfl
                  refine one_ (i := 36) (N := some 92) (List.toArray (List.replicate 37 true ++ List.replicate 51 false)) rfl rfl (one_of HT_.out (by kernel_rfl)) (by decide) (fun K hK => ?_)
                  refine Kd.R_lit_step k23 _ 23 ?hg (N := 92) ?hd (xs := ([(⟨4, 2, 0, 0, (⟨#[]⟩ : ByteArray), (⟨#[]⟩ : ByteArray), false, 0⟩ : S23), (⟨4, 2, 0, 0, (⟨#[]⟩ : ByteArray), (⟨#[]⟩ : ByteArray), false, 0⟩ : S23)] : List (S23))) (inner := [.int .i64 4, .int .i64 2, .int .i64 0, .int .i64 0, .string ⟨#[]⟩, .string ⟨#[]⟩, .bool false, .int .i64 0, .int .i64 4, .int .i64 2, .int .i64 0, .int .i64 0, .string ⟨#[]⟩, .string ⟨#[]⟩, .bool false, .int .i64 0]) (ok := fun _ => True) (okp := fun _ => True) ?hr ?hp (fun _ hk => hk) trivial (Below.refl _ _) (Nat.le_refl _) (by simp) ?_; (case hd => rfl); (case hg => rfl); (case hr => first | (go_simp; done) | (go_simp; rfl)); (case hp => exact (Reps.c8 (show Kd.M k23 _ _ _ (⟨4, 2, 0, 0, (⟨#[]⟩ : ByteArray), (⟨#[]⟩ : ByteArray), false, 0⟩ : S23) [.int .i64 4, .int .i64 2, .int .i64 0, .int .i64 0, .string ⟨#[]⟩, .string ⟨#[]⟩, .bool false, .int .i64 0] from (k23_mkM _ _ _ (⟨4, 2, 0, 0, (⟨#[]⟩ : ByteArray), (⟨#[]⟩ : ByteArray), false, 0⟩ : S23) )) (Reps.c8 (show Kd.M k23 _ _ _ (⟨4, 2, 0, 0, (⟨#[]⟩ : ByteArray), (⟨#[]⟩ : ByteArray), false, 0⟩ : S23) [.int .i64 4, .int .i64 2, .int .i64 0, .int .i64 0, .string ⟨#[]⟩, .string ⟨#[]⟩, .bool false, .int .i64 0] from (k23_mkM _ _ _ (⟨4, 2, 0, 0, (⟨#[]⟩ : ByteArray), (⟨#[]⟩ : ByteArray), false, 0⟩ : S23) )) (Reps.none _ _))))
                  intro v252 w98 ho99 hb hg_ hnew_
                  clear hg_ hnew_
                  (first | rw [← Ny251.out] at ho99 | (simp only [Int.reduceToNat] at ho99; rw [← Ny251.out] at ho99))
                  have n0_ := Aside0.mk (Kd.R_elder' (by (with_reducible repeat (first | apply Kd.R_alloc | apply Kd.R_drewN | apply Kd.R_drew)); exact HO248.out) (Kd.R_base ho99) hb)
                  have n1_ := Aside0.mk (Kd.R_lower (Kd.R_newB (Kd.R_newB (Kd.R_newB (Kd.R_newB (Kd.R_newB (Kd.R_newB (Kd.R_newB (Kd.R_newB (Kd.R_newB (Kd.R_new' ho99 (Kd.R_lt (by (with_reducible repeat (first | apply Kd.R_alloc | apply Kd.R_drewN | apply Kd.R_drew)); exact HO248.out))) (g := w.heap.size) (o := .cells #[.int .i64 4, .int .i64 2, .int .i64 0, .int .i64 0, .string ⟨#[]⟩, .string ⟨#[]⟩, .bool false, .int .i64 0] 23 (0, 0)) (by (with_reducible repeat (first | refine blk_drewN ?_ _ | refine blk_drew ?_ | refine blk_alloc ?_ _)); exact BK187.out)) (g := (w.heap.size + 1)) (o := .cells #[.int .i64 0, .int .i64 1, .int .i64 3, .int .i64 0, .string (⟨#[97, 47, 98]⟩ : ByteArray), .string (⟨#[120, 121]⟩ : ByteArray), .bool false, .int .i64 9] 23 (0, 0)) (by (with_reducible repeat (first | refine blk_drewN ?_ _ | refine blk_drew ?_ | refine blk_alloc ?_ _)); exact BK188.out)) (g := (w.heap.size + 2)) (o := .cells #[.int .i64 3, .int .i64 0, .int .i64 1, .int .i64 0, .string (⟨#[35]⟩ : ByteArray), .string ⟨#[]⟩, .bool true, .int .i64 0] 23 (0, 0)) (by (with_reducible repeat (first | refine blk_drewN ?_ _ | refine blk_drew ?_ | refine blk_alloc ?_ _)); exact BK189.out)) (g := x1.heap.size) (o := .cells #[.int .i64 4, .int .i64 2, .int .i64 0, .int .i64 0, .string ⟨#[]⟩, .string ⟨#[]⟩, .bool false, .int .i64 0] 23 (0, 0)) (by (with_reducible repeat (first | refine blk_drewN ?_ _ | refine blk_drew ?_ | refine blk_alloc ?_ _)); exact BK200.out)) (g := x2.heap.size) (o := .cells #[.int .i64 t201, .int .i64 t202, .int .i64 t203, .int .i64 t204, .string t205, .string t206, .bool t207, .int .i64 t208] 23 (0, 0)) (by (with_reducible repeat (first | refine blk_drewN ?_ _ | refine blk_drew ?_ | refine blk_alloc ?_ _)); exact BK211.out)) (g := x3.heap.size) (o := .cells #[.int .i64 t212, .int .i64 t213, .int .i64 t214, .int .i64 t215, .string t216, .string t217, .bool t218, .int .i64 t219] 23 (0, 0)) (by (with_reducible repeat (first | refine blk_drewN ?_ _ | refine blk_drew ?_ | refine blk_alloc ?_ _)); exact BK222.out)) (g := x4.heap.size) (o := .cells #[.int .i64 t223, .int .i64 t224, .int .i64 t225, .int .i64 t226, .string t227, .string t228, .bool t229, .int .i64 t230] 23 (0, 0)) (by (with_reducible repeat (first | refine blk_drewN ?_ _ | refine blk_drew ?_ | refine blk_alloc ?_ _)); exact BK233.out)) (g := x5.heap.size) (o := .cells #[.int .i64 t234, .int .i64 t235, .int .i64 t236, .int .i64 t237, .string t238, .string t239, .bool t240, .int .i64 t241] 23 (0, 0)) (by (with_reducible repeat (first | refine blk_drewN ?_ _ | refine blk_drew ?_ | refine blk_alloc ?_ _)); exact BK244.out)) (g := x6.heap.size) (o := .cells #[.int .i64 4, .int .i64 2, .int .i64 1, .int .i64 0, .string ⟨#[]⟩, .string ⟨#[]⟩, .bool false, .int .i64 0] 23 (0, 0)) (by (with_reducible repeat (first | refine blk_drewN ?_ _ | refine blk_drew ?_ | refine blk_alloc ?_ _)); exact BK249.out)) (below_size (by repeat (first | (with_reducible first | exact HB.out | apply below_alloc | apply pw_below_drewN | apply below_drew1) | exact HB.out))))
                  have n2_ := Aside0.mk (blk_below (g := w.heap.size) (o := .cells #[.int .i64 4, .int .i64 2, .int .i64 0, .int .i64 0, .string ⟨#[]⟩, .string ⟨#[]⟩, .bool false, .int .i64 0] 23 (0, 0)) (by (with_reducible repeat (first | refine blk_drewN ?_ _ | refine blk_drew ?_ | refine blk_alloc ?_ _)); exact BK187.out) hb)
                  have n3_ := Aside0.mk (blk_below (g := (w.heap.size + 1)) (o := .cells #[.int .i64 0, .int .i64 1, .int .i64 3, .int .i64 0, .string (⟨#[97, 47, 98]⟩ : ByteArray), .string (⟨#[120, 121]⟩ : ByteArray), .bool false, .int .i64 9] 23 (0, 0)) (by (with_reducible repeat (first | refine blk_drewN ?_ _ | refine blk_drew ?_ | refine blk_alloc ?_ _)); exact BK188.out) hb)
                  have n4_ := Aside0.mk (blk_below (g := (w.heap.size + 2)) (o := .cells #[.int .i64 3, .int .i64 0, .int .i64 1, .int .i64 0, .string (⟨#[35]⟩ : ByteArray), .string ⟨#[]⟩, .bool true, .int .i64 0] 23 (0, 0)) (by (with_reducible repeat (first | refine blk_drewN ?_ _ | refine blk_drew ?_ | refine blk_alloc ?_ _)); exact BK189.out) hb)
                  have n5_ := Aside0.mk (blk_below (g := x1.heap.size) (o := .cells #[.int .i64 4, .int .i64 2, .int .i64 0, .int .i64 0, .string ⟨#[]⟩, .string ⟨#[]⟩, .bool false, .int .i64 0] 23 (0, 0)) (by (with_reducible repeat (first | refine blk_drewN ?_ _ | refine blk_drew ?_ | refine blk_alloc ?_ _)); exact BK200.out) hb)
                  have n6_ := Aside0.mk (blk_below (g := x2.heap.size) (o := .cells #[.int .i64 t201, .int .i64 t202, .int .i64 t203, .int .i64 t204, .string t205, .string t206, .bool t207, .int .i64 t208] 23 (0, 0)) (by (with_reducible repeat (first | refine blk_drewN ?_ _ | refine blk_drew ?_ | refine blk_alloc ?_ _)); exact BK211.out) hb)
                  have n7_ := Aside0.mk (blk_below (g := x3.heap.size) (o := .cells #[.int .i64 t212, .int .i64 t213, .int .i64 t214, .int .i64 t215, .string t216, .string t217, .bool t218, .int .i64 t219] 23 (0, 0)) (by (with_reducible repeat (first | refine blk_drewN ?_ _ | refine blk_drew ?_ | refine blk_alloc ?_ _)); exact BK222.out) hb)
                  have n8_ := Aside0.mk (blk_below (g := x4.heap.size) (o := .cells #[.int .i64 t223, .int .i64 t224, .int .i64 t225, .int .i64 t226, .string t227, .string t228, .bool t229, .int .i64 t230] 23 (0, 0)) (by (with_reducible repeat (first | refine blk_drewN ?_ _ | refine blk_drew ?_ | refine blk_alloc ?_ _)); exact BK233.out) hb)
                  have n9_ := Aside0.mk (blk_below (g := x5.heap.size) (o := .cells #[.int .i64 t234, .int .i64 t235, .int .i64 t236, .int .i64 t237, .string t238, .string t239, .bool t240, .int .i64 t241] 23 (0, 0)) (by (with_reducible repeat (first | refine blk_drewN ?_ _ | refine blk_drew ?_ | refine blk_alloc ?_ _)); exact BK244.out) hb)
                  have n10_ := Aside0.mk (blk_below (g := x6.heap.size) (o := .cells #[.int .i64 4, .int .i64 2, .int .i64 1, .int .i64 0, .string ⟨#[]⟩, .string ⟨#[]⟩, .bool false, .int .i64 0] 23 (0, 0)) (by (with_reducible repeat (first | refine blk_drewN ?_ _ | refine blk_drew ?_ | refine blk_alloc ?_ _)); exact BK249.out) hb)
                  have n11_ := Aside0.mk (below_step (by repeat (first | (with_reducible first | exact HB.out | apply below_alloc | apply pw_below_drewN | apply below_drew1) | exact HB.out)) hb)
                  clear HO248
                  clear BK187
                  clear BK188
                  clear BK189
                  clear BK200
                  clear BK211
                  clear BK222
                  clear BK233
                  clear BK244
                  clear BK249
                  clear HB
                  have HO248 := n0_
                  have HO253 := n1_
                  have BK187 := n2_
                  have BK188 := n3_
                  have BK189 := n4_
                  have BK200 := n5_
                  have BK211 := n6_
                  have BK222 := n7_
                  have BK233 := n8_
                  have BK244 := n9_
                  have BK249 := n10_
                  have HB := n11_
                  clear n0_ n1_ n2_ n3_ n4_ n5_ n6_ n7_ n8_ n9_ n10_ n11_
                  clear hb ho99
                  obtain ⟨Ao100, co100, eo100⟩ := Kd.R_slice HO248.out
                  (first | subst eo100 | (injection eo100 with f1_ f2_ f3_; have f4_ := f1_.symm; have f5_ := f3_.symm; clear f1_ f2_ f3_; subst f4_; subst f5_))
                  obtain ⟨Ao101, co101, eo101⟩ := Kd.R_slice HO253.out
                  (first | subst eo101 | (injection eo101 with f1_ f2_ f3_; have f4_ := f1_.symm; have f5_ := f3_.symm; clear f1_ f2_ f3_; subst f4_; subst f5_))
                  refine hK.out _ _ (and8 BK187.out (and8 BK200.out (and8 BK188.out (and8 BK189.out (last8 BK249.out))))) (fun hHeld => ?_)
                  clear hK K
                  refine norm_ (a' := ?_) ?_ ?_
                  rotate_left
                  ·show Act.put _ (some 92) _ = _
                   simp only [Act.put, List.setIfInBounds_toArray, List.set_cons_zero, List.set_cons_succ, i64_w, i32_w]
                   rfl
                  refine one_ (i := 37) (N := some 93) (List.toArray (List.replicate 38 true ++ List.replicate 50 false)) rfl rfl (one_of HT_.out (by kernel_rfl)) (by decide) (fun K hK => ?_)
                  refine goes_ Tryd.func26 (by kernel_rfl) rfl #[.slice Ao100 t245.length co100, .slice Ao101 y251.length co101] (by rfl) rfl rfl (by (try simp only [List.map_toArray, List.map_cons, List.map_nil]); first | done | rfl | (simp only [List.length_drop, List.length_take]; rfl)) ?_
                  with_reducible refine (rivuletref23_Same.calls k _ _ t245 _ _ y251 true _ ?side1 ?side2 ?side3 ?side4 A16.out).mono ?_
                  (case side1 => repeat (first | exact (Kd.R_reads' HO248.out).2.2 | (with_reducible refine Kd.C_alloc ?_ _) | (with_reducible refine Kd.C_drewN ?_ _) | (with_reducible refine Kd.C_drew ?_)))
                  (case side2 => exact (Kd.R_reads' HO248.out).2.1)
                  (case side3 => repeat (first | exact (Kd.R_reads' HO253.out).2.2 | (with_reducible refine Kd.C_alloc ?_ _) | (with_reducible refine Kd.C_drewN ?_ _) | (with_reducible refine Kd.C_drew ?_)))
                  (case side4 => exact (Kd.R_reads' HO253.out).2.1)
                  rintro e w' ⟨rfl, ⟨nd, rfl⟩⟩
                  refine ⟨_, rfl, ?_⟩
                  refine hK.out _ _ (and8 BK187.out (and8 BK200.out (and8 BK188.out (and8 BK189.out (last8 BK249.out))))) (fun hHeld => ?_)
                  clear hK K
                  refine norm_ (a' := ?_) ?_ ?_
                  rotate_left
                  ·show Act.put _ (some 93) _ = _
                   simp only [Act.put, List.setIfInBounds_toArray, List.set_cons_zero, List.set_cons_succ, i64_w, i32_w]
                   rfl
                  refine pure_ (i := 38) (N := some 94) (v := ?_) (a' := ?_) (List.toArray (List.replicate 39 true ++ List.replicate 49 false)) rfl rfl (any_of HT_.out (by kernel_rfl)) (fun _ _ _ h => h) (Or.inl ⟨by rfl, ?_⟩) ?_ ?_
                  rotate_left
                  ·intro w'
                   go_simp
                   with_reducible rfl
                  rotate_left
                  ·simp only [Act.put, List.setIfInBounds_toArray, List.set_cons_zero, List.set_cons_succ, i64_w, i32_w]
                   rfl
                  refine pure_ (i := 39) (N := some 95) (v := ?_) (a' := ?_) (List.toArray (List.replicate 40 true ++ List.replicate 48 false)) rfl rfl (any_of HT_.out (by kernel_rfl)) (fun _ _ _ h => h) (Or.inl ⟨by rfl, ?_⟩) ?_ ?_
                  rotate_left
                  ·intro w'
                   go_simp
                   with_reducible rfl
                  rotate_left
                  ·simp only [Act.put, List.setIfInBounds_toArray, List.set_cons_zero, List.set_cons_succ, i64_w, i32_w]
                   rfl
                  refine pure_ (i := 40) (N := some 96) (v := ?_) (a' := ?_) (List.toArray (List.replicate 41 true ++ List.replicate 47 false)) rfl rfl (any_of HT_.out (by kernel_rfl)) (fun _ _ _ h => h) (Or.inl ⟨by rfl, ?_⟩) ?_ ?_
                  rotate_left
                  ·intro w'
                   go_simp
                   with_reducible rfl
                  rotate_left
                  ·simp only [Act.put, List.setIfInBounds_toArray, List.set_cons_zero, List.set_cons_succ, i64_w, i32_w]
                   rfl
                  refine pure_ (i := 41) (N := some 97) (v := ?_) (a' := ?_) (List.toArray (List.replicate 42 true ++ List.replicate 46 false)) rfl rfl (any_of HT_.out (by kernel_rfl)) (fun _ _ _ h => h) (Or.inl ⟨by rfl, ?_⟩) ?_ ?_
                  rotate_left
                  ·intro w'
                   go_simp
                   with_reducible rfl
                  rotate_left
                  ·simp only [Act.put, List.setIfInBounds_toArray, List.set_cons_zero, List.set_cons_succ, i64_w, i32_w]
                   rfl
                  refine pure_ (i := 42) (N := some 98) (v := ?_) (a' := ?_) (List.toArray (List.replicate 43 true ++ List.replicate 45 false)) rfl rfl (any_of HT_.out (by kernel_rfl)) (fun _ _ _ h => h) (Or.inl ⟨by rfl, ?_⟩) ?_ ?_
                  rotate_left
                  ·intro w'
                   go_simp
                   with_reducible rfl
                  rotate_left
                  ·simp only [Act.put, List.setIfInBounds_toArray, List.set_cons_zero, List.set_cons_succ, i64_w, i32_w]
                   rfl
                  refine pure_ (i := 43) (N := some 99) (v := ?_) (a' := ?_) (List.toArray (List.replicate 44 true ++ List.replicate 44 false)) rfl rfl (any_of HT_.out (by kernel_rfl)) (fun _ _ _ h => h) (Or.inl ⟨by rfl, ?_⟩) ?_ ?_
                  rotate_left
                  ·intro w'
                   go_simp
                   with_reducible rfl
                  rotate_left
                  ·simp only [Act.put, List.setIfInBounds_toArray, List.set_cons_zero, List.set_cons_succ, i64_w, i32_w]
                   rfl
                  refine take_ (i := 44) (N := some 100) (v := ?_) (a' := ?_) (List.toArray (List.replicate 45 true ++ List.replicate 43 false)) rfl rfl (take_ofW HT_.out HW_.out (by kernel_rfl)) (fun _ _ _ h => h) (Or.inl ⟨by rfl, ?_⟩) hHeld ?_ ?_
                  rotate_left
                  ·rintro w' ⟨s0, s1, s2, s3, s4, s5, s6, s7, s8, s9, s10, s11, s12, s13, s14, s15, s16, s17, s18, s19, s20, s21, s22, s23, s24, s25, s26, s27, s28, s29, s30, s31, s32, s33, s34, s35, s36, s37, s38, s39⟩
                   go_simp
                   with_reducible rfl
                  rotate_left
                  ·simp only [Act.put, List.setIfInBounds_toArray, List.set_cons_zero, List.set_cons_succ, i64_w, i32_w]
                   rfl
                  refine one_ (i := 45) (N := some 101) (List.toArray (List.replicate 46 true ++ List.replicate 42 false)) rfl rfl (one_of HT_.out (by kernel_rfl)) (by decide) (fun K hK => ?_)
                  refine goes_ Tryd.func15 (by kernel_rfl) rfl #[.agg #[.int .i64 0, .int .i64 1, .int .i64 3, .int .i64 0, .string (⟨#[97, 47, 98]⟩ : ByteArray), .string (⟨#[120, 121]⟩ : ByteArray), .bool false, .int .i64 9]] (by rfl) rfl rfl (by (try simp only [List.map_toArray, List.map_cons, List.map_nil]); first | done | rfl | (simp only [List.length_drop, List.length_take]; rfl)) ?_
                  with_reducible refine (script_Put.calls 0 1 3 0 ⟨#[97, 47, 98]⟩ ⟨#[120, 121]⟩ false 9 t255 _ A19.out).mono ?_
                  rintro e w102 ⟨rfl, hb⟩
                  refine ⟨_, rfl, ?_⟩
                  have n0_ := Aside0.mk (Kd.R_below (by (with_reducible repeat (first | apply Kd.R_alloc | apply Kd.R_drewN | apply Kd.R_drew)); exact HO248.out) hb)
                  have n1_ := Aside0.mk (Kd.R_below (by (with_reducible repeat (first | apply Kd.R_alloc | apply Kd.R_drewN | apply Kd.R_drew)); exact HO253.out) hb)
                  have n2_ := Aside0.mk (blk_below (g := w.heap.size) (o := .cells #[.int .i64 4, .int .i64 2, .int .i64 0, .int .i64 0, .string ⟨#[]⟩, .string ⟨#[]⟩, .bool false, .int .i64 0] 23 (0, 0)) (by (with_reducible repeat (first | refine blk_drewN ?_ _ | refine blk_drew ?_ | refine blk_alloc ?_ _)); exact BK187.out) hb)
                  have n3_ := Aside0.mk (blk_below (g := (w.heap.size + 1)) (o := .cells #[.int .i64 0, .int .i64 1, .int .i64 3, .int .i64 0, .string (⟨#[97, 47, 98]⟩ : ByteArray), .string (⟨#[120, 121]⟩ : ByteArray), .bool false, .int .i64 9] 23 (0, 0)) (by (with_reducible repeat (first | refine blk_drewN ?_ _ | refine blk_drew ?_ | refine blk_alloc ?_ _)); exact BK188.out) hb)
                  have n4_ := Aside0.mk (blk_below (g := (w.heap.size + 2)) (o := .cells #[.int .i64 3, .int .i64 0, .int .i64 1, .int .i64 0, .string (⟨#[35]⟩ : ByteArray), .string ⟨#[]⟩, .bool true, .int .i64 0] 23 (0, 0)) (by (with_reducible repeat (first | refine blk_drewN ?_ _ | refine blk_drew ?_ | refine blk_alloc ?_ _)); exact BK189.out) hb)
                  have n5_ := Aside0.mk (blk_below (g := x1.heap.size) (o := .cells #[.int .i64 4, .int .i64 2, .int .i64 0, .int .i64 0, .string ⟨#[]⟩, .string ⟨#[]⟩, .bool false, .int .i64 0] 23 (0, 0)) (by (with_reducible repeat (first | refine blk_drewN ?_ _ | refine blk_drew ?_ | refine blk_alloc ?_ _)); exact BK200.out) hb)
                  have n6_ := Aside0.mk (blk_below (g := x2.heap.size) (o := .cells #[.int .i64 t201, .int .i64 t202, .int .i64 t203, .int .i64 t204, .string t205, .string t206, .bool t207, .int .i64 t208] 23 (0, 0)) (by (with_reducible repeat (first | refine blk_drewN ?_ _ | refine blk_drew ?_ | refine blk_alloc ?_ _)); exact BK211.out) hb)
                  have n7_ := Aside0.mk (blk_below (g := x3.heap.size) (o := .cells #[.int .i64 t212, .int .i64 t213, .int .i64 t214, .int .i64 t215, .string t216, .string t217, .bool t218, .int .i64 t219] 23 (0, 0)) (by (with_reducible repeat (first | refine blk_drewN ?_ _ | refine blk_drew ?_ | refine blk_alloc ?_ _)); exact BK222.out) hb)
                  have n8_ := Aside0.mk (blk_below (g := x4.heap.size) (o := .cells #[.int .i64 t223, .int .i64 t224, .int .i64 t225, .int .i64 t226, .string t227, .string t228, .bool t229, .int .i64 t230] 23 (0, 0)) (by (with_reducible repeat (first | refine blk_drewN ?_ _ | refine blk_drew ?_ | refine blk_alloc ?_ _)); exact BK233.out) hb)
                  have n9_ := Aside0.mk (blk_below (g := x5.heap.size) (o := .cells #[.int .i64 t234, .int .i64 t235, .int .i64 t236, .int .i64 t237, .string t238, .string t239, .bool t240, .int .i64 t241] 23 (0, 0)) (by (with_reducible repeat (first | refine blk_drewN ?_ _ | refine blk_drew ?_ | refine blk_alloc ?_ _)); exact BK244.out) hb)
                  have n10_ := Aside0.mk (blk_below (g := x6.heap.size) (o := .cells #[.int .i64 4, .int .i64 2, .int .i64 1, .int .i64 0, .string ⟨#[]⟩, .string ⟨#[]⟩, .bool false, .int .i64 0] 23 (0, 0)) (by (with_reducible repeat (first | refine blk_drewN ?_ _ | refine blk_drew ?_ | refine blk_alloc ?_ _)); exact BK249.out) hb)
                  have n11_ := Aside0.mk (below_step (by repeat (first | (with_reducible first | exact HB.out | apply below_alloc | apply pw_below_drewN | apply below_drew1) | exact HB.out)) hb)
                  clear HO248
                  clear HO253
                  clear BK187
                  clear BK188
                  clear BK189
                  clear BK200
                  clear BK211
                  clear BK222
                  clear BK233
                  clear BK244
                  clear BK249
                  clear HB
                  have HO248 := n0_
                  have HO253 := n1_
                  have BK187 := n2_
                  have BK188 := n3_
                  have BK189 := n4_
                  have BK200 := n5_
                  have BK211 := n6_
                  have BK222 := n7_
                  have BK233 := n8_
                  have BK244 := n9_
                  have BK249 := n10_
                  have HB := n11_
                  clear n0_ n1_ n2_ n3_ n4_ n5_ n6_ n7_ n8_ n9_ n10_ n11_
                  (try clear hb)
                  (try clear hb2)
                  (try clear hk)
                  (try clear hi)
                  refine hK.out _ _ (and8 BK187.out (and8 BK200.out (and8 BK188.out (and8 BK189.out (last8 BK249.out))))) (fun hHeld => ?_)
                  clear hK K
                  refine norm_ (a' := ?_) ?_ ?_
                  rotate_left
                  ·show Act.put _ (some 101) _ = _
                   simp only [Act.put, List.setIfInBounds_toArray, List.set_cons_zero, List.set_cons_succ, i64_w, i32_w]
                   rfl
                  refine pure_ (i := 46) (N := some 102) (v := ?_) (a' := ?_) (List.toArray (List.replicate 47 true ++ List.replicate 41 false)) rfl rfl (any_of HT_.out (by kernel_rfl)) (fun _ _ _ h => h) (Or.inl ⟨by rfl, ?_⟩) ?_ ?_
                  rotate_left
                  ·intro w'
                   go_simp
                   with_reducible rfl
                  rotate_left
                  ·simp only [Act.put, List.setIfInBounds_toArray, List.set_cons_zero, List.set_cons_succ, i64_w, i32_w]
                   rfl
                  refine pure_ (i := 47) (N := some 103) (v := ?_) (a' := ?_) (List.toArray (List.replicate 48 true ++ List.replicate 40 false)) rfl rfl (any_of HT_.out (by kernel_rfl)) (fun _ _ _ h => h) (Or.inl ⟨by rfl, ?_⟩) ?_ ?_
                  rotate_left
                  ·intro w'
                   go_simp
                   with_reducible rfl
                  rotate_left
                  ·simp only [Act.put, List.setIfInBounds_toArray, List.set_cons_zero, List.set_cons_succ, i64_w, i32_w]
                   rfl
                  refine pure_ (i := 48) (N := some 104) (v := ?_) (a' := ?_) (List.toArray (List.replicate 49 true ++ List.replicate 39 false)) rfl rfl (any_of HT_.out (by kernel_rfl)) (fun _ _ _ h => h) (Or.inl ⟨by rfl, ?_⟩) ?_ ?_
                  rotate_left
                  ·intro w'
                   go_simp
                   with_reducible rfl
                  rotate_left
                  ·simp only [Act.put, List.setIfInBounds_toArray, List.set_cons_zero, List.set_cons_succ, i64_w, i32_w]
                   rfl
                  refine take_ (i := 49) (N := some 105) (v := ?_) (a' := ?_) (List.toArray (List.replicate 50 true ++ List.replicate 38 false)) rfl rfl (take_ofW HT_.out HW_.out (by kernel_rfl)) (fun _ _ _ h => h) (Or.inl ⟨by rfl, ?_⟩) hHeld ?_ ?_
                  rotate_left
                  ·rintro w' ⟨s0, s1, s2, s3, s4, s5, s6, s7, s8, s9, s10, s11, s12, s13, s14, s15, s16, s17, s18, s19, s20, s21, s22, s23, s24, s25, s26, s27, s28, s29, s30, s31, s32, s33, s34, s35, s36, s37, s38, s39⟩
                   go_simp
                   with_reducible rfl
                  rotate_left
                  ·simp only [Act.put, List.setIfInBounds_toArray, List.set_cons_zero, List.set_cons_succ, i64_w, i32_w]
                   rfl
                  refine one_ (i := 50) (N := some 106) (List.toArray (List.replicate 51 true ++ List.replicate 37 false)) rfl rfl (one_of HT_.out (by kernel_rfl)) (by decide) (fun K hK => ?_)
                  refine goes_ Tryd.func15 (by kernel_rfl) rfl #[.agg #[.int .i64 3, .int .i64 0, .int .i64 1, .int .i64 0, .string (⟨#[35]⟩ : ByteArray), .string ⟨#[]⟩, .bool true, .int .i64 0]] (by rfl) rfl rfl (by (try simp only [List.map_toArray, List.map_cons, List.map_nil]); first | done | rfl | (simp only [List.length_drop, List.length_take]; rfl)) ?_
                  with_reducible refine (script_Put.calls 3 0 1 0 ⟨#[35]⟩ ⟨#[]⟩ true 0 t256 _ A21.out).mono ?_
                  rintro e w103 ⟨rfl, hb⟩
                  refine ⟨_, rfl, ?_⟩
                  have n0_ := Aside0.mk (Kd.R_below (by (with_reducible repeat (first | apply Kd.R_alloc | apply Kd.R_drewN | apply Kd.R_drew)); exact HO248.out) hb)
                  have n1_ := Aside0.mk (Kd.R_below (by (with_reducible repeat (first | apply Kd.R_alloc | apply Kd.R_drewN | apply Kd.R_drew)); exact HO253.out) hb)
                  have n2_ := Aside0.mk (blk_below (g := w.heap.size) (o := .cells #[.int .i64 4, .int .i64 2, .int .i64 0, .int .i64 0, .string ⟨#[]⟩, .string ⟨#[]⟩, .bool false, .int .i64 0] 23 (0, 0)) (by (with_reducible repeat (first | refine blk_drewN ?_ _ | refine blk_drew ?_ | refine blk_alloc ?_ _)); exact BK187.out) hb)
                  have n3_ := Aside0.mk (blk_below (g := (w.heap.size + 1)) (o := .cells #[.int .i64 0, .int .i64 1, .int .i64 3, .int .i64 0, .string (⟨#[97, 47, 98]⟩ : ByteArray), .string (⟨#[120, 121]⟩ : ByteArray), .bool false, .int .i64 9] 23 (0, 0)) (by (with_reducible repeat (first | refine blk_drewN ?_ _ | refine blk_drew ?_ | refine blk_alloc ?_ _)); exact BK188.out) hb)
                  have n4_ := Aside0.mk (blk_below (g := (w.heap.size + 2)) (o := .cells #[.int .i64 3, .int .i64 0, .int .i64 1, .int .i64 0, .string (⟨#[35]⟩ : ByteArray), .string ⟨#[]⟩, .bool true, .int .i64 0] 23 (0, 0)) (by (with_reducible repeat (first | refine blk_drewN ?_ _ | refine blk_drew ?_ | refine blk_alloc ?_ _)); exact BK189.out) hb)
                  have n5_ := Aside0.mk (blk_below (g := x1.heap.size) (o := .cells #[.int .i64 4, .int .i64 2, .int .i64 0, .int .i64 0, .string ⟨#[]⟩, .string ⟨#[]⟩, .bool false, .int .i64 0] 23 (0, 0)) (by (with_reducible repeat (first | refine blk_drewN ?_ _ | refine blk_drew ?_ | refine blk_alloc ?_ _)); exact BK200.out) hb)
                  have n6_ := Aside0.mk (blk_below (g := x2.heap.size) (o := .cells #[.int .i64 t201, .int .i64 t202, .int .i64 t203, .int .i64 t204, .string t205, .string t206, .bool t207, .int .i64 t208] 23 (0, 0)) (by (with_reducible repeat (first | refine blk_drewN ?_ _ | refine blk_drew ?_ | refine blk_alloc ?_ _)); exact BK211.out) hb)
                  have n7_ := Aside0.mk (blk_below (g := x3.heap.size) (o := .cells #[.int .i64 t212, .int .i64 t213, .int .i64 t214, .int .i64 t215, .string t216, .string t217, .bool t218, .int .i64 t219] 23 (0, 0)) (by (with_reducible repeat (first | refine blk_drewN ?_ _ | refine blk_drew ?_ | refine blk_alloc ?_ _)); exact BK222.out) hb)
                  have n8_ := Aside0.mk (blk_below (g := x4.heap.size) (o := .cells #[.int .i64 t223, .int .i64 t224, .int .i64 t225, .int .i64 t226, .string t227, .string t228, .bool t229, .int .i64 t230] 23 (0, 0)) (by (with_reducible repeat (first | refine blk_drewN ?_ _ | refine blk_drew ?_ | refine blk_alloc ?_ _)); exact BK233.out) hb)
                  have n9_ := Aside0.mk (blk_below (g := x5.heap.size) (o := .cells #[.int .i64 t234, .int .i64 t235, .int .i64 t236, .int .i64 t237, .string t238, .string t239, .bool t240, .int .i64 t241] 23 (0, 0)) (by (with_reducible repeat (first | refine blk_drewN ?_ _ | refine blk_drew ?_ | refine blk_alloc ?_ _)); exact BK244.out) hb)
                  have n10_ := Aside0.mk (blk_below (g := x6.heap.size) (o := .cells #[.int .i64 4, .int .i64 2, .int .i64 1, .int .i64 0, .string ⟨#[]⟩, .string ⟨#[]⟩, .bool false, .int .i64 0] 23 (0, 0)) (by (with_reducible repeat (first | refine blk_drewN ?_ _ | refine blk_drew ?_ | refine blk_alloc ?_ _)); exact BK249.out) hb)
                  have n11_ := Aside0.mk (below_step (by repeat (first | (with_reducible first | exact HB.out | apply below_alloc | apply pw_below_drewN | apply below_drew1) | exact HB.out)) hb)
                  clear HO248
                  clear HO253
                  clear BK187
                  clear BK188
                  clear BK189
                  clear BK200
                  clear BK211
                  clear BK222
                  clear BK233
                  clear BK244
                  clear BK249
                  clear HB
                  have HO248 := n0_
                  have HO253 := n1_
                  have BK187 := n2_
                  have BK188 := n3_
                  have BK189 := n4_
                  have BK200 := n5_
                  have BK211 := n6_
                  have BK222 := n7_
                  have BK233 := n8_
                  have BK244 := n9_
                  have BK249 := n10_
                  have HB := n11_
                  clear n0_ n1_ n2_ n3_ n4_ n5_ n6_ n7_ n8_ n9_ n10_ n11_
                  (try clear hb)
                  (try clear hb2)
                  (try clear hk)
                  (try clear hi)
                  refine hK.out _ _ (and8 BK187.out (and8 BK200.out (and8 BK188.out (and8 BK189.out (last8 BK249.out))))) (fun hHeld => ?_)
                  clear hK K
                  refine norm_ (a' := ?_) ?_ ?_
                  rotate_left
                  ·show Act.put _ (some 106) _ = _
                   simp only [Act.put, List.setIfInBounds_toArray, List.set_cons_zero, List.set_cons_succ, i64_w, i32_w]
                   rfl
                  refine pure_ (i := 51) (N := some 107) (v := ?_) (a' := ?_) (List.toArray (List.replicate 52 true ++ List.replicate 36 false)) rfl rfl (any_of HT_.out (by kernel_rfl)) (fun _ _ _ h => h) (Or.inl ⟨by rfl, ?_⟩) ?_ ?_
                  rotate_left
                  ·intro w'
                   go_simp
                   with_reducible rfl
                  rotate_left
                  ·simp only [Act.put, List.setIfInBounds_toArray, List.set_cons_zero, List.set_cons_succ, i64_w, i32_w]
                   rfl
                  refine pure_ (i := 52) (N := some 108) (v := ?_) (a' := ?_) (List.toArray (List.replicate 53 true ++ List.replicate 35 false)) rfl rfl (any_of HT_.out (by kernel_rfl)) (fun _ _ _ h => h) (Or.inl ⟨by rfl, ?_⟩) ?_ ?_
                  rotate_left
                  ·intro w'
                   go_simp
                   with_reducible rfl
                  rotate_left
                  ·simp only [Act.put, List.setIfInBounds_toArray, List.set_cons_zero, List.set_cons_succ, i64_w, i32_w]
                   rfl
                  refine pure_ (i := 53) (N := some 109) (v := ?_) (a' := ?_) (List.toArray (List.replicate 54 true ++ List.replicate 34 false)) rfl rfl (any_of HT_.out (by kernel_rfl)) (fun _ _ _ h => h) (Or.inl ⟨by rfl, ?_⟩) ?_ ?_
                  rotate_left
                  ·intro w'
                   go_simp
                   with_reducible rfl
                  rotate_left
                  ·simp only [Act.put, List.setIfInBounds_toArray, List.set_cons_zero, List.set_cons_succ, i64_w, i32_w]
                   rfl
                  refine take_ (i := 54) (N := some 110) (v := ?_) (a' := ?_) (List.toArray (List.replicate 55 true ++ List.replicate 33 false)) rfl rfl (take_ofW HT_.out HW_.out (by kernel_rfl)) (fun _ _ _ h => h) (Or.inl ⟨by rfl, ?_⟩) hHeld ?_ ?_
                  rotate_left
                  ·rintro w' ⟨s0, s1, s2, s3, s4, s5, s6, s7, s8, s9, s10, s11, s12, s13, s14, s15, s16, s17, s18, s19, s20, s21, s22, s23, s24, s25, s26, s27, s28, s29, s30, s31, s32, s33, s34, s35, s36, s37, s38, s39⟩
                   go_simp
                   with_reducible rfl
                  rotate_left
                  ·simp only [Act.put, List.setIfInBounds_toArray, List.set_cons_zero, List.set_cons_succ, i64_w, i32_w]
                   rfl
                  refine take_ (i := 55) (N := some 111) (v := ?_) (a' := ?_) (List.toArray (List.replicate 56 true ++ List.replicate 32 false)) rfl rfl (take_ofW HT_.out HW_.out (by kernel_rfl)) (fun _ _ _ h => h) (Or.inl ⟨by rfl, ?_⟩) hHeld ?_ ?_
                  rotate_left
                  ·rintro w' ⟨s0, s1, s2, s3, s4, s5, s6, s7, s8, s9, s10, s11, s12, s13, s14, s15, s16, s17, s18, s19, s20, s21, s22, s23, s24, s25, s26, s27, s28, s29, s30, s31, s32, s33, s34, s35, s36, s37, s38, s39⟩
                   go_simp
                   with_reducible rfl
                  rotate_left
                  ·simp only [Act.put, List.setIfInBounds_toArray, List.set_cons_zero, List.set_cons_succ, i64_w, i32_w]
                   rfl
                  refine take_ (i := 56) (N := some 112) (v := ?_) (a' := ?_) (List.toArray (List.replicate 57 true ++ List.replicate 31 false)) rfl rfl (take_ofW HT_.out HW_.out (by kernel_rfl)) (fun _ _ _ h => h) (Or.inl ⟨by rfl, ?_⟩) hHeld ?_ ?_
                  rotate_left
                  ·rintro w' ⟨s0, s1, s2, s3, s4, s5, s6, s7, s8, s9, s10, s11, s12, s13, s14, s15, s16, s17, s18, s19, s20, s21, s22, s23, s24, s25, s26, s27, s28, s29, s30, s31, s32, s33, s34, s35, s36, s37, s38, s39⟩
                   go_simp
                   with_reducible rfl
                  rotate_left
                  ·simp only [Act.put, List.setIfInBounds_toArray, List.set_cons_zero, List.set_cons_succ, i64_w, i32_w]
                   rfl
                  refine take_ (i := 57) (N := some 113) (v := ?_) (a' := ?_) (List.toArray (List.replicate 58 true ++ List.replicate 30 false)) rfl rfl (take_ofW HT_.out HW_.out (by kernel_rfl)) (fun _ _ _ h => h) (Or.inl ⟨by rfl, ?_⟩) hHeld ?_ ?_
                  rotate_left
                  ·rintro w' ⟨s0, s1, s2, s3, s4, s5, s6, s7, s8, s9, s10, s11, s12, s13, s14, s15, s16, s17, s18, s19, s20, s21, s22, s23, s24, s25, s26, s27, s28, s29, s30, s31, s32, s33, s34, s35, s36, s37, s38, s39⟩
                   go_simp
                   with_reducible rfl
                  rotate_left
                  ·simp only [Act.put, List.setIfInBounds_toArray, List.set_cons_zero, List.set_cons_succ, i64_w, i32_w]
                   rfl
                  refine one_ (i := 58) (N := some 114) (List.toArray (List.replicate 59 true ++ List.replicate 29 false)) rfl rfl (one_of HT_.out (by kernel_rfl)) (by decide) (fun K hK => ?_)
                  refine Kd.R_lit_step k23 _ 23 ?hg (N := 114) ?hd (xs := ([(⟨4, 2, 0, 0, (⟨#[]⟩ : ByteArray), (⟨#[]⟩ : ByteArray), false, 0⟩ : S23), (⟨4, 2, 1, 0, (⟨#[]⟩ : ByteArray), (⟨#[]⟩ : ByteArray), false, 0⟩ : S23), (⟨0, 1, 3, 0, (⟨#[97, 47, 98]⟩ : ByteArray), (⟨#[120, 121]⟩ : ByteArray), false, 9⟩ : S23), (⟨3, 0, 1, 0, (⟨#[35]⟩ : ByteArray), (⟨#[]⟩ : ByteArray), true, 0⟩ : S23)] : List (S23))) (inner := [.int .i64 4, .int .i64 2, .int .i64 0, .int .i64 0, .string ⟨#[]⟩, .string ⟨#[]⟩, .bool false, .int .i64 0, .int .i64 4, .int .i64 2, .int .i64 1, .int .i64 0, .string ⟨#[]⟩, .string ⟨#[]⟩, .bool false, .int .i64 0, .int .i64 0, .int .i64 1, .int .i64 3, .int .i64 0, .string (⟨#[97, 47, 98]⟩ : ByteArray), .string (⟨#[120, 121]⟩ : ByteArray), .bool false, .int .i64 9, .int .i64 3, .int .i64 0, .int .i64 1, .int .i64 0, .string (⟨#[35]⟩ : ByteArray), .string ⟨#[]⟩, .bool true, .int .i64 0]) (ok := fun _ => True) (okp := fun _ => True) ?hr ?hp (fun _ hk => hk) trivial (Below.refl _ _) (Nat.le_refl _) (by simp) ?_; (case hd => rfl); (case hg => rfl); (case hr => first | (go_simp; done) | (go_simp; rfl)); (case hp => exact (Reps.c8 (show Kd.M k23 _ _ _ (⟨4, 2, 0, 0, (⟨#[]⟩ : ByteArray), (⟨#[]⟩ : ByteArray), false, 0⟩ : S23) [.int .i64 4, .int .i64 2, .int .i64 0, .int .i64 0, .string ⟨#[]⟩, .string ⟨#[]⟩, .bool false, .int .i64 0] from (k23_mkM _ _ _ (⟨4, 2, 0, 0, (⟨#[]⟩ : ByteArray), (⟨#[]⟩ : ByteArray), false, 0⟩ : S23) )) (Reps.c8 (show Kd.M k23 _ _ _ (⟨4, 2, 1, 0, (⟨#[]⟩ : ByteArray), (⟨#[]⟩ : ByteArray), false, 0⟩ : S23) [.int .i64 4, .int .i64 2, .int .i64 1, .int .i64 0, .string ⟨#[]⟩, .string ⟨#[]⟩, .bool false, .int .i64 0] from (k23_mkM _ _ _ (⟨4, 2, 1, 0, (⟨#[]⟩ : ByteArray), (⟨#[]⟩ : ByteArray), false, 0⟩ : S23) )) (Reps.c8 (show Kd.M k23 _ _ _ (⟨0, 1, 3, 0, (⟨#[97, 47, 98]⟩ : ByteArray), (⟨#[120, 121]⟩ : ByteArray), false, 9⟩ : S23) [.int .i64 0, .int .i64 1, .int .i64 3, .int .i64 0, .string (⟨#[97, 47, 98]⟩ : ByteArray), .string (⟨#[120, 121]⟩ : ByteArray), .bool false, .int .i64 9] from (k23_mkM _ _ _ (⟨0, 1, 3, 0, (⟨#[97, 47, 98]⟩ : ByteArray), (⟨#[120, 121]⟩ : ByteArray), false, 9⟩ : S23) )) (Reps.c8 (show Kd.M k23 _ _ _ (⟨3, 0, 1, 0, (⟨#[35]⟩ : ByteArray), (⟨#[]⟩ : ByteArray), true, 0⟩ : S23) [.int .i64 3, .int .i64 0, .int .i64 1, .int .i64 0, .string (⟨#[35]⟩ : ByteArray), .string ⟨#[]⟩, .bool true, .int .i64 0] from (k23_mkM _ _ _ (⟨3, 0, 1, 0, (⟨#[35]⟩ : ByteArray), (⟨#[]⟩ : ByteArray), true, 0⟩ : S23) )) (Reps.none _ _))))))
                  intro v258 w104 ho105 hb hg_ hnew_
                  clear hg_ hnew_
                  (first | rw [← Ny257.out] at ho105 | (simp only [Int.reduceToNat] at ho105; rw [← Ny257.out] at ho105))
                  have n0_ := Aside0.mk (Kd.R_elder' (by (with_reducible repeat (first | apply Kd.R_alloc | apply Kd.R_drewN | apply Kd.R_drew)); exact HO248.out) (Kd.R_base ho105) hb)
                  have n1_ := Aside0.mk (Kd.R_elder' (by (with_reducible repeat (first | apply Kd.R_alloc | apply Kd.R_drewN | apply Kd.R_drew)); exact HO253.out) (Kd.R_base ho105) hb)
                  have n2_ := Aside0.mk (Kd.R_lower (Kd.R_newB (Kd.R_newB (Kd.R_newB (Kd.R_newB (Kd.R_newB (Kd.R_newB (Kd.R_newB (Kd.R_newB (Kd.R_newB (Kd.R_new' (Kd.R_new' ho105 (Kd.R_lt (by (with_reducible repeat (first | apply Kd.R_alloc | apply Kd.R_drewN | apply Kd.R_drew)); exact HO248.out))) (Kd.R_lt (by (with_reducible repeat (first | apply Kd.R_alloc | apply Kd.R_drewN | apply Kd.R_drew)); exact HO253.out))) (g := w.heap.size) (o := .cells #[.int .i64 4, .int .i64 2, .int .i64 0, .int .i64 0, .string ⟨#[]⟩, .string ⟨#[]⟩, .bool false, .int .i64 0] 23 (0, 0)) (by (with_reducible repeat (first | refine blk_drewN ?_ _ | refine blk_drew ?_ | refine blk_alloc ?_ _)); exact BK187.out)) (g := (w.heap.size + 1)) (o := .cells #[.int .i64 0, .int .i64 1, .int .i64 3, .int .i64 0, .string (⟨#[97, 47, 98]⟩ : ByteArray), .string (⟨#[120, 121]⟩ : ByteArray), .bool false, .int .i64 9] 23 (0, 0)) (by (with_reducible repeat (first | refine blk_drewN ?_ _ | refine blk_drew ?_ | refine blk_alloc ?_ _)); exact BK188.out)) (g := (w.heap.size + 2)) (o := .cells #[.int .i64 3, .int .i64 0, .int .i64 1, .int .i64 0, .string (⟨#[35]⟩ : ByteArray), .string ⟨#[]⟩, .bool true, .int .i64 0] 23 (0, 0)) (by (with_reducible repeat (first | refine blk_drewN ?_ _ | refine blk_drew ?_ | refine blk_alloc ?_ _)); exact BK189.out)) (g := x1.heap.size) (o := .cells #[.int .i64 4, .int .i64 2, .int .i64 0, .int .i64 0, .string ⟨#[]⟩, .string ⟨#[]⟩, .bool false, .int .i64 0] 23 (0, 0)) (by (with_reducible repeat (first | refine blk_drewN ?_ _ | refine blk_drew ?_ | refine blk_alloc ?_ _)); exact BK200.out)) (g := x2.heap.size) (o := .cells #[.int .i64 t201, .int .i64 t202, .int .i64 t203, .int .i64 t204, .string t205, .string t206, .bool t207, .int .i64 t208] 23 (0, 0)) (by (with_reducible repeat (first | refine blk_drewN ?_ _ | refine blk_drew ?_ | refine blk_alloc ?_ _)); exact BK211.out)) (g := x3.heap.size) (o := .cells #[.int .i64 t212, .int .i64 t213, .int .i64 t214, .int .i64 t215, .string t216, .string t217, .bool t218, .int .i64 t219] 23 (0, 0)) (by (with_reducible repeat (first | refine blk_drewN ?_ _ | refine blk_drew ?_ | refine blk_alloc ?_ _)); exact BK222.out)) (g := x4.heap.size) (o := .cells #[.int .i64 t223, .int .i64 t224, .int .i64 t225, .int .i64 t226, .string t227, .string t228, .bool t229, .int .i64 t230] 23 (0, 0)) (by (with_reducible repeat (first | refine blk_drewN ?_ _ | refine blk_drew ?_ | refine blk_alloc ?_ _)); exact BK233.out)) (g := x5.heap.size) (o := .cells #[.int .i64 t234, .int .i64 t235, .int .i64 t236, .int .i64 t237, .string t238, .string t239, .bool t240, .int .i64 t241] 23 (0, 0)) (by (with_reducible repeat (first | refine blk_drewN ?_ _ | refine blk_drew ?_ | refine blk_alloc ?_ _)); exact BK244.out)) (g := x6.heap.size) (o := .cells #[.int .i64 4, .int .i64 2, .int .i64 1, .int .i64 0, .string ⟨#[]⟩, .string ⟨#[]⟩, .bool false, .int .i64 0] 23 (0, 0)) (by (with_reducible repeat (first | refine blk_drewN ?_ _ | refine blk_drew ?_ | refine blk_alloc ?_ _)); exact BK249.out)) (below_size (by repeat (first | (with_reducible first | exact HB.out | apply below_alloc | apply pw_below_drewN | apply below_drew1) | exact HB.out))))
                  have n3_ := Aside0.mk (blk_below (g := w.heap.size) (o := .cells #[.int .i64 4, .int .i64 2, .int .i64 0, .int .i64 0, .string ⟨#[]⟩, .string ⟨#[]⟩, .bool false, .int .i64 0] 23 (0, 0)) (by (with_reducible repeat (first | refine blk_drewN ?_ _ | refine blk_drew ?_ | refine blk_alloc ?_ _)); exact BK187.out) hb)
                  have n4_ := Aside0.mk (blk_below (g := (w.heap.size + 1)) (o := .cells #[.int .i64 0, .int .i64 1, .int .i64 3, .int .i64 0, .string (⟨#[97, 47, 98]⟩ : ByteArray), .string (⟨#[120, 121]⟩ : ByteArray), .bool false, .int .i64 9] 23 (0, 0)) (by (with_reducible repeat (first | refine blk_drewN ?_ _ | refine blk_drew ?_ | refine blk_alloc ?_ _)); exact BK188.out) hb)
                  have n5_ := Aside0.mk (blk_below (g := (w.heap.size + 2)) (o := .cells #[.int .i64 3, .int .i64 0, .int .i64 1, .int .i64 0, .string (⟨#[35]⟩ : ByteArray), .string ⟨#[]⟩, .bool true, .int .i64 0] 23 (0, 0)) (by (with_reducible repeat (first | refine blk_drewN ?_ _ | refine blk_drew ?_ | refine blk_alloc ?_ _)); exact BK189.out) hb)
                  have n6_ := Aside0.mk (blk_below (g := x1.heap.size) (o := .cells #[.int .i64 4, .int .i64 2, .int .i64 0, .int .i64 0, .string ⟨#[]⟩, .string ⟨#[]⟩, .bool false, .int .i64 0] 23 (0, 0)) (by (with_reducible repeat (first | refine blk_drewN ?_ _ | refine blk_drew ?_ | refine blk_alloc ?_ _)); exact BK200.out) hb)
                  have n7_ := Aside0.mk (blk_below (g := x2.heap.size) (o := .cells #[.int .i64 t201, .int .i64 t202, .int .i64 t203, .int .i64 t204, .string t205, .string t206, .bool t207, .int .i64 t208] 23 (0, 0)) (by (with_reducible repeat (first | refine blk_drewN ?_ _ | refine blk_drew ?_ | refine blk_alloc ?_ _)); exact BK211.out) hb)
                  have n8_ := Aside0.mk (blk_below (g := x3.heap.size) (o := .cells #[.int .i64 t212, .int .i64 t213, .int .i64 t214, .int .i64 t215, .string t216, .string t217, .bool t218, .int .i64 t219] 23 (0, 0)) (by (with_reducible repeat (first | refine blk_drewN ?_ _ | refine blk_drew ?_ | refine blk_alloc ?_ _)); exact BK222.out) hb)
                  have n9_ := Aside0.mk (blk_below (g := x4.heap.size) (o := .cells #[.int .i64 t223, .int .i64 t224, .int .i64 t225, .int .i64 t226, .string t227, .string t228, .bool t229, .int .i64 t230] 23 (0, 0)) (by (with_reducible repeat (first | refine blk_drewN ?_ _ | refine blk_drew ?_ | refine blk_alloc ?_ _)); exact BK233.out) hb)
                  have n10_ := Aside0.mk (blk_below (g := x5.heap.size) (o := .cells #[.int .i64 t234, .int .i64 t235, .int .i64 t236, .int .i64 t237, .string t238, .string t239, .bool t240, .int .i64 t241] 23 (0, 0)) (by (with_reducible repeat (first | refine blk_drewN ?_ _ | refine blk_drew ?_ | refine blk_alloc ?_ _)); exact BK244.out) hb)
                  have n11_ := Aside0.mk (blk_below (g := x6.heap.size) (o := .cells #[.int .i64 4, .int .i64 2, .int .i64 1, .int .i64 0, .string ⟨#[]⟩, .string ⟨#[]⟩, .bool false, .int .i64 0] 23 (0, 0)) (by (with_reducible repeat (first | refine blk_drewN ?_ _ | refine blk_drew ?_ | refine blk_alloc ?_ _)); exact BK249.out) hb)
                  have n12_ := Aside0.mk (below_step (by repeat (first | (with_reducible first | exact HB.out | apply below_alloc | apply pw_below_drewN | apply below_drew1) | exact HB.out)) hb)
                  clear HO248
                  clear HO253
                  clear BK187
                  clear BK188
                  clear BK189
                  clear BK200
                  clear BK211
                  clear BK222
                  clear BK233
                  clear BK244
                  clear BK249
                  clear HB
                  have HO248 := n0_
                  have HO253 := n1_
                  have HO259 := n2_
                  have BK187 := n3_
                  have BK188 := n4_
                  have BK189 := n5_
                  have BK200 := n6_
                  have BK211 := n7_
                  have BK222 := n8_
                  have BK233 := n9_
                  have BK244 := n10_
                  have BK249 := n11_
                  have HB := n12_
                  clear n0_ n1_ n2_ n3_ n4_ n5_ n6_ n7_ n8_ n9_ n10_ n11_ n12_
                  clear hb ho105
                  obtain ⟨Ao106, co106, eo106⟩ := Kd.R_slice HO259.out
                  (first | subst eo106 | (injection eo106 with f1_ f2_ f3_; have f4_ := f1_.symm; have f5_ := f3_.symm; clear f1_ f2_ f3_; subst f4_; subst f5_))
                  refine hK.out _ _ (and8 BK187.out (and8 BK200.out (and8 BK188.out (and8 BK189.out (last8 BK249.out))))) (fun hHeld => ?_)
                  clear hK K
                  refine norm_ (a' := ?_) ?_ ?_
                  rotate_left
                  ·show Act.put _ (some 114) _ = _
                   simp only [Act.put, List.setIfInBounds_toArray, List.set_cons_zero, List.set_cons_succ, i64_w, i32_w]
                   rfl
                  refine one_ (i := 59) (N := some 115) (List.toArray (List.replicate 60 true ++ List.replicate 28 false)) rfl rfl (one_of HT_.out (by kernel_rfl)) (by decide) (fun K hK => ?_)
                  refine goes_ Tryd.func19 (by kernel_rfl) rfl #[.slice Ao106 y257.length co106] (by rfl) rfl rfl (by (try simp only [List.map_toArray, List.map_cons, List.map_nil]); first | done | rfl | (simp only [List.length_drop, List.length_take]; rfl)) ?_
                  with_reducible refine (script_Show.calls _ _ y257 t260 _ ?side1 ?side2 A23.out).mono ?_
                  (case side1 => repeat (first | exact (Kd.R_reads' HO259.out).2.2 | (with_reducible refine Kd.C_alloc ?_ _) | (with_reducible refine Kd.C_drewN ?_ _) | (with_reducible refine Kd.C_drew ?_)))
                  (case side2 => exact (Kd.R_reads' HO259.out).2.1)
                  rintro e w107 ⟨rfl, hb⟩
                  refine ⟨_, rfl, ?_⟩
                  have n0_ := Aside0.mk (Kd.R_below (by (with_reducible repeat (first | apply Kd.R_alloc | apply Kd.R_drewN | apply Kd.R_drew)); exact HO248.out) hb)
                  have n1_ := Aside0.mk (Kd.R_below (by (with_reducible repeat (first | apply Kd.R_alloc | apply Kd.R_drewN | apply Kd.R_drew)); exact HO253.out) hb)
                  have n2_ := Aside0.mk (Kd.R_below (by (with_reducible repeat (first | apply Kd.R_alloc | apply Kd.R_drewN | apply Kd.R_drew)); exact HO259.out) hb)
                  have n3_ := Aside0.mk (blk_below (g := w.heap.size) (o := .cells #[.int .i64 4, .int .i64 2, .int .i64 0, .int .i64 0, .string ⟨#[]⟩, .string ⟨#[]⟩, .bool false, .int .i64 0] 23 (0, 0)) (by (with_reducible repeat (first | refine blk_drewN ?_ _ | refine blk_drew ?_ | refine blk_alloc ?_ _)); exact BK187.out) hb)
                  have n4_ := Aside0.mk (blk_below (g := (w.heap.size + 1)) (o := .cells #[.int .i64 0, .int .i64 1, .int .i64 3, .int .i64 0, .string (⟨#[97, 47, 98]⟩ : ByteArray), .string (⟨#[120, 121]⟩ : ByteArray), .bool false, .int .i64 9] 23 (0, 0)) (by (with_reducible repeat (first | refine blk_drewN ?_ _ | refine blk_drew ?_ | refine blk_alloc ?_ _)); exact BK188.out) hb)
                  have n5_ := Aside0.mk (blk_below (g := (w.heap.size + 2)) (o := .cells #[.int .i64 3, .int .i64 0, .int .i64 1, .int .i64 0, .string (⟨#[35]⟩ : ByteArray), .string ⟨#[]⟩, .bool true, .int .i64 0] 23 (0, 0)) (by (with_reducible repeat (first | refine blk_drewN ?_ _ | refine blk_drew ?_ | refine blk_alloc ?_ _)); exact BK189.out) hb)
                  have n6_ := Aside0.mk (blk_below (g := x1.heap.size) (o := .cells #[.int .i64 4, .int .i64 2, .int .i64 0, .int .i64 0, .string ⟨#[]⟩, .string ⟨#[]⟩, .bool false, .int .i64 0] 23 (0, 0)) (by (with_reducible repeat (first | refine blk_drewN ?_ _ | refine blk_drew ?_ | refine blk_alloc ?_ _)); exact BK200.out) hb)
                  have n7_ := Aside0.mk (blk_below (g := x2.heap.size) (o := .cells #[.int .i64 t201, .int .i64 t202, .int .i64 t203, .int .i64 t204, .string t205, .string t206, .bool t207, .int .i64 t208] 23 (0, 0)) (by (with_reducible repeat (first | refine blk_drewN ?_ _ | refine blk_drew ?_ | refine blk_alloc ?_ _)); exact BK211.out) hb)
                  have n8_ := Aside0.mk (blk_below (g := x3.heap.size) (o := .cells #[.int .i64 t212, .int .i64 t213, .int .i64 t214, .int .i64 t215, .string t216, .string t217, .bool t218, .int .i64 t219] 23 (0, 0)) (by (with_reducible repeat (first | refine blk_drewN ?_ _ | refine blk_drew ?_ | refine blk_alloc ?_ _)); exact BK222.out) hb)
                  have n9_ := Aside0.mk (blk_below (g := x4.heap.size) (o := .cells #[.int .i64 t223, .int .i64 t224, .int .i64 t225, .int .i64 t226, .string t227, .string t228, .bool t229, .int .i64 t230] 23 (0, 0)) (by (with_reducible repeat (first | refine blk_drewN ?_ _ | refine blk_drew ?_ | refine blk_alloc ?_ _)); exact BK233.out) hb)
                  have n10_ := Aside0.mk (blk_below (g := x5.heap.size) (o := .cells #[.int .i64 t234, .int .i64 t235, .int .i64 t236, .int .i64 t237, .string t238, .string t239, .bool t240, .int .i64 t241] 23 (0, 0)) (by (with_reducible repeat (first | refine blk_drewN ?_ _ | refine blk_drew ?_ | refine blk_alloc ?_ _)); exact BK244.out) hb)
                  have n11_ := Aside0.mk (blk_below (g := x6.heap.size) (o := .cells #[.int .i64 4, .int .i64 2, .int .i64 1, .int .i64 0, .string ⟨#[]⟩, .string ⟨#[]⟩, .bool false, .int .i64 0] 23 (0, 0)) (by (with_reducible repeat (first | refine blk_drewN ?_ _ | refine blk_drew ?_ | refine blk_alloc ?_ _)); exact BK249.out) hb)
                  have n12_ := Aside0.mk (below_step (by repeat (first | (with_reducible first | exact HB.out | apply below_alloc | apply pw_below_drewN | apply below_drew1) | exact HB.out)) hb)
                  clear HO248
                  clear HO253
                  clear HO259
                  clear BK187
                  clear BK188
                  clear BK189
                  clear BK200
                  clear BK211
                  clear BK222
                  clear BK233
                  clear BK244
                  clear BK249
                  clear HB
                  have HO248 := n0_
                  have HO253 := n1_
                  have HO259 := n2_
                  have BK187 := n3_
                  have BK188 := n4_
                  have BK189 := n5_
                  have BK200 := n6_
                  have BK211 := n7_
                  have BK222 := n8_
                  have BK233 := n9_
                  have BK244 := n10_
                  have BK249 := n11_
                  have HB := n12_
                  clear n0_ n1_ n2_ n3_ n4_ n5_ n6_ n7_ n8_ n9_ n10_ n11_ n12_
                  (try clear hb)
                  (try clear hb2)
                  (try clear hk)
                  (try clear hi)
                  refine hK.out _ _ (and8 BK187.out (and8 BK200.out (and8 BK188.out (and8 BK189.out (last8 BK249.out))))) (fun hHeld => ?_)
                  clear hK K
                  refine norm_ (a' := ?_) ?_ ?_
                  rotate_left
                  ·show Act.put _ (some 115) _ = _
                   simp only [Act.put, List.setIfInBounds_toArray, List.set_cons_zero, List.set_cons_succ, i64_w, i32_w]
                   rfl
                  refine pure_ (i := 60) (N := some 116) (v := ?_) (a' := ?_) (List.toArray (List.replicate 61 true ++ List.replicate 27 false)) rfl rfl (any_of HT_.out (by kernel_rfl)) (fun _ _ _ h => h) (Or.inl ⟨by rfl, ?_⟩) ?_ ?_
                  rotate_left
                  ·intro w'
                   go_simp
                   with_reducible rfl
                  rotate_left
                  ·simp only [Act.put, List.setIfInBounds_toArray, List.set_cons_zero, List.set_cons_succ, i64_w, i32_w]
                   rfl
                  refine pure_ (i := 61) (N := some 117) (v := ?_) (a' := ?_) (List.toArray (List.replicate 62 true ++ List.replicate 26 false)) rfl rfl (any_of HT_.out (by kernel_rfl)) (fun _ _ _ h => h) (Or.inl ⟨by rfl, ?_⟩) ?_ ?_
                  rotate_left
                  ·intro w'
                   go_simp
                   with_reducible rfl
                  rotate_left
                  ·simp only [Act.put, List.setIfInBounds_toArray, List.set_cons_zero, List.set_cons_succ, i64_w, i32_w]
                   rfl
                  refine pure_ (i := 62) (N := some 118) (v := ?_) (a' := ?_) (List.toArray (List.replicate 63 true ++ List.replicate 25 false)) rfl rfl (any_of HT_.out (by kernel_rfl)) (fun _ _ _ h => h) (Or.inl ⟨by rfl, ?_⟩) ?_ ?_
                  rotate_left
                  ·intro w'
                   go_simp
                   with_reducible rfl
                  rotate_left
                  ·simp only [Act.put, List.setIfInBounds_toArray, List.set_cons_zero, List.set_cons_succ, i64_w, i32_w]
                   rfl
                  refine take_ (i := 63) (N := some 119) (v := ?_) (a' := ?_) (List.toArray (List.replicate 64 true ++ List.replicate 24 false)) rfl rfl (take_ofW HT_.out HW_.out (by kernel_rfl)) (fun _ _ _ h => h) (Or.inl ⟨by rfl, ?_⟩) hHeld ?_ ?_
                  rotate_left
                  ·rintro w' ⟨s0, s1, s2, s3, s4, s5, s6, s7, s8, s9, s10, s11, s12, s13, s14, s15, s16, s17, s18, s19, s20, s21, s22, s23, s24, s25, s26, s27, s28, s29, s30, s31, s32, s33, s34, s35, s36, s37, s38, s39⟩
                   go_simp
                   with_reducible rfl
                  rotate_left
                  ·simp only [Act.put, List.setIfInBounds_toArray, List.set_cons_zero, List.set_cons_succ, i64_w, i32_w]
                   rfl
                  refine one_ (i := 64) (N := some 120) (List.toArray (List.replicate 65 true ++ List.replicate 23 false)) rfl rfl (one_of HT_.out (by kernel_rfl)) (by decide) (fun K hK => ?_)
                  refine goes_ Tryd.func11 (by kernel_rfl) rfl #[.agg #[.int .i64 4, .int .i64 2, .int .i64 1, .int .i64 0, .string ⟨#[]⟩, .string ⟨#[]⟩, .bool false, .int .i64 0]] (by rfl) rfl rfl (by (try simp only [List.map_toArray, List.map_cons, List.map_nil]); first | done | rfl | (simp only [List.length_drop, List.length_take]; rfl)) ?_
                  with_reducible refine (script_Right.calls 4 2 1 0 ⟨#[]⟩ ⟨#[]⟩ false 0 false _ A25.out).mono ?_
                  rintro e w108 ⟨rfl, hb⟩
                  refine ⟨_, rfl, ?_⟩
                  have n0_ := Aside0.mk (Kd.R_below (by (with_reducible repeat (first | apply Kd.R_alloc | apply Kd.R_drewN | apply Kd.R_drew)); exact HO248.out) hb)
                  have n1_ := Aside0.mk (Kd.R_below (by (with_reducible repeat (first | apply Kd.R_alloc | apply Kd.R_drewN | apply Kd.R_drew)); exact HO253.out) hb)
                  have n2_ := Aside0.mk (Kd.R_below (by (with_reducible repeat (first | apply Kd.R_alloc | apply Kd.R_drewN | apply Kd.R_drew)); exact HO259.out) hb)
                  have n3_ := Aside0.mk (blk_below (g := w.heap.size) (o := .cells #[.int .i64 4, .int .i64 2, .int .i64 0, .int .i64 0, .string ⟨#[]⟩, .string ⟨#[]⟩, .bool false, .int .i64 0] 23 (0, 0)) (by (with_reducible repeat (first | refine blk_drewN ?_ _ | refine blk_drew ?_ | refine blk_alloc ?_ _)); exact BK187.out) hb)
                  have n4_ := Aside0.mk (blk_below (g := (w.heap.size + 1)) (o := .cells #[.int .i64 0, .int .i64 1, .int .i64 3, .int .i64 0, .string (⟨#[97, 47, 98]⟩ : ByteArray), .string (⟨#[120, 121]⟩ : ByteArray), .bool false, .int .i64 9] 23 (0, 0)) (by (with_reducible repeat (first | refine blk_drewN ?_ _ | refine blk_drew ?_ | refine blk_alloc ?_ _)); exact BK188.out) hb)
                  have n5_ := Aside0.mk (blk_below (g := (w.heap.size + 2)) (o := .cells #[.int .i64 3, .int .i64 0, .int .i64 1, .int .i64 0, .string (⟨#[35]⟩ : ByteArray), .string ⟨#[]⟩, .bool true, .int .i64 0] 23 (0, 0)) (by (with_reducible repeat (first | refine blk_drewN ?_ _ | refine blk_drew ?_ | refine blk_alloc ?_ _)); exact BK189.out) hb)
                  have n6_ := Aside0.mk (blk_below (g := x1.heap.size) (o := .cells #[.int .i64 4, .int .i64 2, .int .i64 0, .int .i64 0, .string ⟨#[]⟩, .string ⟨#[]⟩, .bool false, .int .i64 0] 23 (0, 0)) (by (with_reducible repeat (first | refine blk_drewN ?_ _ | refine blk_drew ?_ | refine blk_alloc ?_ _)); exact BK200.out) hb)
                  have n7_ := Aside0.mk (blk_below (g := x2.heap.size) (o := .cells #[.int .i64 t201, .int .i64 t202, .int .i64 t203, .int .i64 t204, .string t205, .string t206, .bool t207, .int .i64 t208] 23 (0, 0)) (by (with_reducible repeat (first | refine blk_drewN ?_ _ | refine blk_drew ?_ | refine blk_alloc ?_ _)); exact BK211.out) hb)
                  have n8_ := Aside0.mk (blk_below (g := x3.heap.size) (o := .cells #[.int .i64 t212, .int .i64 t213, .int .i64 t214, .int .i64 t215, .string t216, .string t217, .bool t218, .int .i64 t219] 23 (0, 0)) (by (with_reducible repeat (first | refine blk_drewN ?_ _ | refine blk_drew ?_ | refine blk_alloc ?_ _)); exact BK222.out) hb)
                  have n9_ := Aside0.mk (blk_below (g := x4.heap.size) (o := .cells #[.int .i64 t223, .int .i64 t224, .int .i64 t225, .int .i64 t226, .string t227, .string t228, .bool t229, .int .i64 t230] 23 (0, 0)) (by (with_reducible repeat (first | refine blk_drewN ?_ _ | refine blk_drew ?_ | refine blk_alloc ?_ _)); exact BK233.out) hb)
                  have n10_ := Aside0.mk (blk_below (g := x5.heap.size) (o := .cells #[.int .i64 t234, .int .i64 t235, .int .i64 t236, .int .i64 t237, .string t238, .string t239, .bool t240, .int .i64 t241] 23 (0, 0)) (by (with_reducible repeat (first | refine blk_drewN ?_ _ | refine blk_drew ?_ | refine blk_alloc ?_ _)); exact BK244.out) hb)
                  have n11_ := Aside0.mk (blk_below (g := x6.heap.size) (o := .cells #[.int .i64 4, .int .i64 2, .int .i64 1, .int .i64 0, .string ⟨#[]⟩, .string ⟨#[]⟩, .bool false, .int .i64 0] 23 (0, 0)) (by (with_reducible repeat (first | refine blk_drewN ?_ _ | refine blk_drew ?_ | refine blk_alloc ?_ _)); exact BK249.out) hb)
                  have n12_ := Aside0.mk (below_step (by repeat (first | (with_reducible first | exact HB.out | apply below_alloc | apply pw_below_drewN | apply below_drew1) | exact HB.out)) hb)
                  clear HO248
                  clear HO253
                  clear HO259
                  clear BK187
                  clear BK188
                  clear BK189
                  clear BK200
                  clear BK211
                  clear BK222
                  clear BK233
                  clear BK244
                  clear BK249
                  clear HB
                  have HO248 := n0_
                  have HO253 := n1_
                  have HO259 := n2_
                  have BK187 := n3_
                  have BK188 := n4_
                  have BK189 := n5_
                  have BK200 := n6_
                  have BK211 := n7_
                  have BK222 := n8_
                  have BK233 := n9_
                  have BK244 := n10_
                  have BK249 := n11_
                  have HB := n12_
                  clear n0_ n1_ n2_ n3_ n4_ n5_ n6_ n7_ n8_ n9_ n10_ n11_ n12_
                  (try clear hb)
                  (try clear hb2)
                  (try clear hk)
                  (try clear hi)
                  refine hK.out _ _ (and8 BK187.out (and8 BK200.out (and8 BK188.out (and8 BK189.out (last8 BK249.out))))) (fun hHeld => ?_)
                  clear hK K
                  refine norm_ (a' := ?_) ?_ ?_
                  rotate_left
                  ·show Act.put _ (some 120) _ = _
                   simp only [Act.put, List.setIfInBounds_toArray, List.set_cons_zero, List.set_cons_succ, i64_w, i32_w]
                   rfl
                  refine pure_ (i := 65) (N := some 121) (v := ?_) (a' := ?_) (List.toArray (List.replicate 66 true ++ List.replicate 22 false)) rfl rfl (any_of HT_.out (by kernel_rfl)) (fun _ _ _ h => h) (Or.inl ⟨by rfl, ?_⟩) ?_ ?_
                  rotate_left
                  ·intro w'
                   go_simp
                   with_reducible rfl
                  rotate_left
                  ·simp only [Act.put, List.setIfInBounds_toArray, List.set_cons_zero, List.set_cons_succ, i64_w, i32_w]
                   rfl
                  refine pure_ (i := 66) (N := some 122) (v := ?_) (a' := ?_) (List.toArray (List.replicate 67 true ++ List.replicate 21 false)) rfl rfl (any_of HT_.out (by kernel_rfl)) (fun _ _ _ h => h) (Or.inl ⟨by rfl, ?_⟩) ?_ ?_
                  rotate_left
                  ·intro w'
                   go_simp
                   with_reducible rfl
                  rotate_left
                  ·simp only [Act.put, List.setIfInBounds_toArray, List.set_cons_zero, List.set_cons_succ, i64_w, i32_w]
                   rfl
                  refine pure_ (i := 67) (N := some 123) (v := ?_) (a' := ?_) (List.toArray (List.replicate 68 true ++ List.replicate 20 false)) rfl rfl (any_of HT_.out (by kernel_rfl)) (fun _ _ _ h => h) (Or.inl ⟨by rfl, ?_⟩) ?_ ?_
                  rotate_left
                  ·intro w'
                   go_simp
                   with_reducible rfl
                  rotate_left
                  ·simp only [Act.put, List.setIfInBounds_toArray, List.set_cons_zero, List.set_cons_succ, i64_w, i32_w]
                   rfl
                  refine take_ (i := 68) (N := some 124) (v := ?_) (a' := ?_) (List.toArray (List.replicate 69 true ++ List.replicate 19 false)) rfl rfl (take_ofW HT_.out HW_.out (by kernel_rfl)) (fun _ _ _ h => h) (Or.inl ⟨by rfl, ?_⟩) hHeld ?_ ?_
                  rotate_left
                  ·rintro w' ⟨s0, s1, s2, s3, s4, s5, s6, s7, s8, s9, s10, s11, s12, s13, s14, s15, s16, s17, s18, s19, s20, s21, s22, s23, s24, s25, s26, s27, s28, s29, s30, s31, s32, s33, s34, s35, s36, s37, s38, s39⟩
                   go_simp
                   with_reducible rfl
                  rotate_left
                  ·simp only [Act.put, List.setIfInBounds_toArray, List.set_cons_zero, List.set_cons_succ, i64_w, i32_w]
                   rfl
                  refine take_ (i := 70) (N := some 126) (v := ?_) (a' := ?_) (List.toArray (List.replicate 69 true ++ [false, true] ++ List.replicate 17 false)) rfl rfl (take_ofW HT_.out HW_.out (by kernel_rfl)) (fun _ _ _ h => h) (Or.inl ⟨by rfl, ?_⟩) hHeld ?_ ?_
                  rotate_left
                  ·rintro w' ⟨s0, s1, s2, s3, s4, s5, s6, s7, s8, s9, s10, s11, s12, s13, s14, s15, s16, s17, s18, s19, s20, s21, s22, s23, s24, s25, s26, s27, s28, s29, s30, s31, s32, s33, s34, s35, s36, s37, s38, s39⟩
                   go_simp
                   with_reducible rfl
                  rotate_left
                  ·simp only [Act.put, List.setIfInBounds_toArray, List.set_cons_zero, List.set_cons_succ, i64_w, i32_w]
                   rfl
                  refine one_ (i := 69) (N := some 125) (List.toArray (List.replicate 71 true ++ List.replicate 17 false)) rfl rfl (one_of HT_.out (by kernel_rfl)) (by decide) (fun K hK => ?_)
                  refine goes_ Tryd.func13 (by kernel_rfl) rfl #[.agg #[.int .i64 4, .int .i64 2, .int .i64 1, .int .i64 0, .string ⟨#[]⟩, .string ⟨#[]⟩, .bool false, .int .i64 0]] (by rfl) rfl rfl (by (try simp only [List.map_toArray, List.map_cons, List.map_nil]); first | done | rfl | (simp only [List.length_drop, List.length_take]; rfl)) ?_
                  with_reducible refine (script_Bare.calls 4 2 1 0 ⟨#[]⟩ ⟨#[]⟩ false 0 4 2 0 0 ⟨#[]⟩ ⟨#[]⟩ false 0 _ A27.out).mono ?_
                  rintro e w109 ⟨rfl, hb⟩
                  refine ⟨_, rfl, ?_⟩
                  have n0_ := Aside0.mk (Kd.R_below (by (with_reducible repeat (first | apply Kd.R_alloc | apply Kd.R_drewN | apply Kd.R_drew)); exact HO248.out) hb)
                  have n1_ := Aside0.mk (Kd.R_below (by (with_reducible repeat (first | apply Kd.R_alloc | apply Kd.R_drewN | apply Kd.R_drew)); exact HO253.out) hb)
                  have n2_ := Aside0.mk (Kd.R_below (by (with_reducible repeat (first | apply Kd.R_alloc | apply Kd.R_drewN | apply Kd.R_drew)); exact HO259.out) hb)
                  have n3_ := Aside0.mk (blk_below (g := w.heap.size) (o := .cells #[.int .i64 4, .int .i64 2, .int .i64 0, .int .i64 0, .string ⟨#[]⟩, .string ⟨#[]⟩, .bool false, .int .i64 0] 23 (0, 0)) (by (with_reducible repeat (first | refine blk_drewN ?_ _ | refine blk_drew ?_ | refine blk_alloc ?_ _)); exact BK187.out) hb)
                  have n4_ := Aside0.mk (blk_below (g := (w.heap.size + 1)) (o := .cells #[.int .i64 0, .int .i64 1, .int .i64 3, .int .i64 0, .string (⟨#[97, 47, 98]⟩ : ByteArray), .string (⟨#[120, 121]⟩ : ByteArray), .bool false, .int .i64 9] 23 (0, 0)) (by (with_reducible repeat (first | refine blk_drewN ?_ _ | refine blk_drew ?_ | refine blk_alloc ?_ _)); exact BK188.out) hb)
                  have n5_ := Aside0.mk (blk_below (g := (w.heap.size + 2)) (o := .cells #[.int .i64 3, .int .i64 0, .int .i64 1, .int .i64 0, .string (⟨#[35]⟩ : ByteArray), .string ⟨#[]⟩, .bool true, .int .i64 0] 23 (0, 0)) (by (with_reducible repeat (first | refine blk_drewN ?_ _ | refine blk_drew ?_ | refine blk_alloc ?_ _)); exact BK189.out) hb)
                  have n6_ := Aside0.mk (blk_below (g := x1.heap.size) (o := .cells #[.int .i64 4, .int .i64 2, .int .i64 0, .int .i64 0, .string ⟨#[]⟩, .string ⟨#[]⟩, .bool false, .int .i64 0] 23 (0, 0)) (by (with_reducible repeat (first | refine blk_drewN ?_ _ | refine blk_drew ?_ | refine blk_alloc ?_ _)); exact BK200.out) hb)
                  have n7_ := Aside0.mk (blk_below (g := x2.heap.size) (o := .cells #[.int .i64 t201, .int .i64 t202, .int .i64 t203, .int .i64 t204, .string t205, .string t206, .bool t207, .int .i64 t208] 23 (0, 0)) (by (with_reducible repeat (first | refine blk_drewN ?_ _ | refine blk_drew ?_ | refine blk_alloc ?_ _)); exact BK211.out) hb)
                  have n8_ := Aside0.mk (blk_below (g := x3.heap.size) (o := .cells #[.int .i64 t212, .int .i64 t213, .int .i64 t214, .int .i64 t215, .string t216, .string t217, .bool t218, .int .i64 t219] 23 (0, 0)) (by (with_reducible repeat (first | refine blk_drewN ?_ _ | refine blk_drew ?_ | refine blk_alloc ?_ _)); exact BK222.out) hb)
                  have n9_ := Aside0.mk (blk_below (g := x4.heap.size) (o := .cells #[.int .i64 t223, .int .i64 t224, .int .i64 t225, .int .i64 t226, .string t227, .string t228, .bool t229, .int .i64 t230] 23 (0, 0)) (by (with_reducible repeat (first | refine blk_drewN ?_ _ | refine blk_drew ?_ | refine blk_alloc ?_ _)); exact BK233.out) hb)
                  have n10_ := Aside0.mk (blk_below (g := x5.heap.size) (o := .cells #[.int .i64 t234, .int .i64 t235, .int .i64 t236, .int .i64 t237, .string t238, .string t239, .bool t240, .int .i64 t241] 23 (0, 0)) (by (with_reducible repeat (first | refine blk_drewN ?_ _ | refine blk_drew ?_ | refine blk_alloc ?_ _)); exact BK244.out) hb)
                  have n11_ := Aside0.mk (blk_below (g := x6.heap.size) (o := .cells #[.int .i64 4, .int .i64 2, .int .i64 1, .int .i64 0, .string ⟨#[]⟩, .string ⟨#[]⟩, .bool false, .int .i64 0] 23 (0, 0)) (by (with_reducible repeat (first | refine blk_drewN ?_ _ | refine blk_drew ?_ | refine blk_alloc ?_ _)); exact BK249.out) hb)
                  have n12_ := Aside0.mk (below_step (by repeat (first | (with_reducible first | exact HB.out | apply below_alloc | apply pw_below_drewN | apply below_drew1) | exact HB.out)) hb)
                  clear HO248
                  clear HO253
                  clear HO259
                  clear BK187
                  clear BK188
                  clear BK189
                  clear BK200
                  clear BK211
                  clear BK222
                  clear BK233
                  clear BK244
                  clear BK249
                  clear HB
                  have HO248 := n0_
                  have HO253 := n1_
                  have HO259 := n2_
                  have BK187 := n3_
                  have BK188 := n4_
                  have BK189 := n5_
                  have BK200 := n6_
                  have BK211 := n7_
                  have BK222 := n8_
                  have BK233 := n9_
                  have BK244 := n10_
                  have BK249 := n11_
                  have HB := n12_
                  clear n0_ n1_ n2_ n3_ n4_ n5_ n6_ n7_ n8_ n9_ n10_ n11_ n12_
                  (try clear hb)
                  (try clear hb2)
                  (try clear hk)
                  (try clear hi)
                  refine hK.out _ _ (and8 BK187.out (and8 BK200.out (and8 BK188.out (and8 BK189.out (last8 BK249.out))))) (fun hHeld => ?_)
                  clear hK K
                  refine norm_ (a' := ?_) ?_ ?_
                  rotate_left
                  ·show Act.put _ (some 125) _ = _
                   simp only [Act.put, List.setIfInBounds_toArray, List.set_cons_zero, List.set_cons_succ, i64_w, i32_w]
                   rfl
                  refine pure_ (i := 71) (N := some 127) (v := ?_) (a' := ?_) (List.toArray (List.replicate 72 true ++ List.replicate 16 false)) rfl rfl (any_of HT_.out (by kernel_rfl)) (fun _ _ _ h => h) (Or.inl ⟨by rfl, ?_⟩) ?_ ?_
                  rotate_left
                  ·intro w'
                   go_simp
                   with_reducible rfl
                  rotate_left
                  ·simp only [Act.put, List.setIfInBounds_toArray, List.set_cons_zero, List.set_cons_succ, i64_w, i32_w]
                   rfl
                  refine pure_ (i := 72) (N := some 128) (v := ?_) (a' := ?_) (List.toArray (List.replicate 73 true ++ List.replicate 15 false)) rfl rfl (any_of HT_.out (by kernel_rfl)) (fun _ _ _ h => h) (Or.inl ⟨by rfl, ?_⟩) ?_ ?_
                  rotate_left
                  ·intro w'
                   go_simp
                   with_reducible rfl
                  rotate_left
                  ·simp only [Act.put, List.setIfInBounds_toArray, List.set_cons_zero, List.set_cons_succ, i64_w, i32_w]
                   rfl
                  refine pure_ (i := 73) (N := some 129) (v := ?_) (a' := ?_) (List.toArray (List.replicate 74 true ++ List.replicate 14 false)) rfl rfl (any_of HT_.out (by kernel_rfl)) (fun _ _ _ h => h) (Or.inl ⟨by rfl, ?_⟩) ?_ ?_
                  rotate_left
                  ·intro w'
                   go_simp
                   with_reducible rfl
                  rotate_left
                  ·simp only [Act.put, List.setIfInBounds_toArray, List.set_cons_zero, List.set_cons_succ, i64_w, i32_w]
                   rfl
                  refine one_ (i := 74) (N := some 130) (List.toArray (List.replicate 75 true ++ List.replicate 13 false)) rfl rfl (one_of HT_.out (by kernel_rfl)) (by decide) (fun K hK => ?_)
                  refine goes_ Tryd.func17 (by kernel_rfl) rfl #[.int .i64 10] (by rfl) rfl rfl (by (try simp only [List.map_toArray, List.map_cons, List.map_nil]); first | done | rfl | (simp only [List.length_drop, List.length_take]; rfl)) ?_
                  with_reducible refine (script_Name.calls 10 t270 _ A29.out).mono ?_
                  rintro e w110 ⟨rfl, hb⟩
                  refine ⟨_, rfl, ?_⟩
                  have n0_ := Aside0.mk (Kd.R_below (by (with_reducible repeat (first | apply Kd.R_alloc | apply Kd.R_drewN | apply Kd.R_drew)); exact HO248.out) hb)
                  have n1_ := Aside0.mk (Kd.R_below (by (with_reducible repeat (first | apply Kd.R_alloc | apply Kd.R_drewN | apply Kd.R_drew)); exact HO253.out) hb)
                  have n2_ := Aside0.mk (Kd.R_below (by (with_reducible repeat (first | apply Kd.R_alloc | apply Kd.R_drewN | apply Kd.R_drew)); exact HO259.out) hb)
                  have n3_ := Aside0.mk (blk_below (g := w.heap.size) (o := .cells #[.int .i64 4, .int .i64 2, .int .i64 0, .int .i64 0, .string ⟨#[]⟩, .string ⟨#[]⟩, .bool false, .int .i64 0] 23 (0, 0)) (by (with_reducible repeat (first | refine blk_drewN ?_ _ | refine blk_drew ?_ | refine blk_alloc ?_ _)); exact BK187.out) hb)
                  have n4_ := Aside0.mk (blk_below (g := (w.heap.size + 1)) (o := .cells #[.int .i64 0, .int .i64 1, .int .i64 3, .int .i64 0, .string (⟨#[97, 47, 98]⟩ : ByteArray), .string (⟨#[120, 121]⟩ : ByteArray), .bool false, .int .i64 9] 23 (0, 0)) (by (with_reducible repeat (first | refine blk_drewN ?_ _ | refine blk_drew ?_ | refine blk_alloc ?_ _)); exact BK188.out) hb)
                  have n5_ := Aside0.mk (blk_below (g := (w.heap.size + 2)) (o := .cells #[.int .i64 3, .int .i64 0, .int .i64 1, .int .i64 0, .string (⟨#[35]⟩ : ByteArray), .string ⟨#[]⟩, .bool true, .int .i64 0] 23 (0, 0)) (by (with_reducible repeat (first | refine blk_drewN ?_ _ | refine blk_drew ?_ | refine blk_alloc ?_ _)); exact BK189.out) hb)
                  have n6_ := Aside0.mk (blk_below (g := x1.heap.size) (o := .cells #[.int .i64 4, .int .i64 2, .int .i64 0, .int .i64 0, .string ⟨#[]⟩, .string ⟨#[]⟩, .bool false, .int .i64 0] 23 (0, 0)) (by (with_reducible repeat (first | refine blk_drewN ?_ _ | refine blk_drew ?_ | refine blk_alloc ?_ _)); exact BK200.out) hb)
                  have n7_ := Aside0.mk (blk_below (g := x2.heap.size) (o := .cells #[.int .i64 t201, .int .i64 t202, .int .i64 t203, .int .i64 t204, .string t205, .string t206, .bool t207, .int .i64 t208] 23 (0, 0)) (by (with_reducible repeat (first | refine blk_drewN ?_ _ | refine blk_drew ?_ | refine blk_alloc ?_ _)); exact BK211.out) hb)
                  have n8_ := Aside0.mk (blk_below (g := x3.heap.size) (o := .cells #[.int .i64 t212, .int .i64 t213, .int .i64 t214, .int .i64 t215, .string t216, .string t217, .bool t218, .int .i64 t219] 23 (0, 0)) (by (with_reducible repeat (first | refine blk_drewN ?_ _ | refine blk_drew ?_ | refine blk_alloc ?_ _)); exact BK222.out) hb)
                  have n9_ := Aside0.mk (blk_below (g := x4.heap.size) (o := .cells #[.int .i64 t223, .int .i64 t224, .int .i64 t225, .int .i64 t226, .string t227, .string t228, .bool t229, .int .i64 t230] 23 (0, 0)) (by (with_reducible repeat (first | refine blk_drewN ?_ _ | refine blk_drew ?_ | refine blk_alloc ?_ _)); exact BK233.out) hb)
                  have n10_ := Aside0.mk (blk_below (g := x5.heap.size) (o := .cells #[.int .i64 t234, .int .i64 t235, .int .i64 t236, .int .i64 t237, .string t238, .string t239, .bool t240, .int .i64 t241] 23 (0, 0)) (by (with_reducible repeat (first | refine blk_drewN ?_ _ | refine blk_drew ?_ | refine blk_alloc ?_ _)); exact BK244.out) hb)
                  have n11_ := Aside0.mk (blk_below (g := x6.heap.size) (o := .cells #[.int .i64 4, .int .i64 2, .int .i64 1, .int .i64 0, .string ⟨#[]⟩, .string ⟨#[]⟩, .bool false, .int .i64 0] 23 (0, 0)) (by (with_reducible repeat (first | refine blk_drewN ?_ _ | refine blk_drew ?_ | refine blk_alloc ?_ _)); exact BK249.out) hb)
                  have n12_ := Aside0.mk (below_step (by repeat (first | (with_reducible first | exact HB.out | apply below_alloc | apply pw_below_drewN | apply below_drew1) | exact HB.out)) hb)
                  clear HO248
                  clear HO253
                  clear HO259
                  clear BK187
                  clear BK188
                  clear BK189
                  clear BK200
                  clear BK211
                  clear BK222
                  clear BK233
                  clear BK244
                  clear BK249
                  clear HB
                  have HO248 := n0_
                  have HO253 := n1_
                  have HO259 := n2_
                  have BK187 := n3_
                  have BK188 := n4_
                  have BK189 := n5_
                  have BK200 := n6_
                  have BK211 := n7_
                  have BK222 := n8_
                  have BK233 := n9_
                  have BK244 := n10_
                  have BK249 := n11_
                  have HB := n12_
                  clear n0_ n1_ n2_ n3_ n4_ n5_ n6_ n7_ n8_ n9_ n10_ n11_ n12_
                  (try clear hb)
                  (try clear hb2)
                  (try clear hk)
                  (try clear hi)
                  refine hK.out _ _ (and8 BK187.out (and8 BK200.out (and8 BK188.out (and8 BK189.out (last8 BK249.out))))) (fun hHeld => ?_)
                  clear hK K
                  refine norm_ (a' := ?_) ?_ ?_
                  rotate_left
                  ·show Act.put _ (some 130) _ = _
                   simp only [Act.put, List.setIfInBounds_toArray, List.set_cons_zero, List.set_cons_succ, i64_w, i32_w]
                   rfl
                  refine pure_ (i := 75) (N := some 131) (v := ?_) (a' := ?_) (List.toArray (List.replicate 76 true ++ List.replicate 12 false)) rfl rfl (any_of HT_.out (by kernel_rfl)) (fun _ _ _ h => h) (Or.inl ⟨by rfl, ?_⟩) ?_ ?_
                  rotate_left
                  ·intro w'
                   go_simp
                   with_reducible rfl
                  rotate_left
                  ·simp only [Act.put, List.setIfInBounds_toArray, List.set_cons_zero, List.set_cons_succ, i64_w, i32_w]
                   rfl
                  refine pure_ (i := 76) (N := some 132) (v := ?_) (a' := ?_) (List.toArray (List.replicate 77 true ++ List.replicate 11 false)) rfl rfl (any_of HT_.out (by kernel_rfl)) (fun _ _ _ h => h) (Or.inl ⟨by rfl, ?_⟩) ?_ ?_
                  rotate_left
                  ·intro w'
                   go_simp
                   with_reducible rfl
                  rotate_left
                  ·simp only [Act.put, List.setIfInBounds_toArray, List.set_cons_zero, List.set_cons_succ, i64_w, i32_w]
                   rfl
                  refine pure_ (i := 77) (N := some 133) (v := ?_) (a' := ?_) (List.toArray (List.replicate 78 true ++ List.replicate 10 false)) rfl rfl (any_of HT_.out (by kernel_rfl)) (fun _ _ _ h => h) (Or.inl ⟨by rfl, ?_⟩) ?_ ?_
                  rotate_left
                  ·intro w'
                   go_simp
                   with_reducible rfl
                  rotate_left
                  ·simp only [Act.put, List.setIfInBounds_toArray, List.set_cons_zero, List.set_cons_succ, i64_w, i32_w]
                   rfl
                  refine one_ (i := 78) (N := some 134) (List.toArray (List.replicate 79 true ++ List.replicate 9 false)) rfl rfl (one_of HT_.out (by kernel_rfl)) (by decide) (fun K hK => ?_)
                  refine goes_ Tryd.func17 (by kernel_rfl) rfl #[.int .i64 11] (by rfl) rfl rfl (by (try simp only [List.map_toArray, List.map_cons, List.map_nil]); first | done | rfl | (simp only [List.length_drop, List.length_take]; rfl)) ?_
                  with_reducible refine (script_Name.calls 11 t271 _ A31.out).mono ?_
                  rintro e w111 ⟨rfl, hb⟩
                  refine ⟨_, rfl, ?_⟩
                  have n0_ := Aside0.mk (Kd.R_below (by (with_reducible repeat (first | apply Kd.R_alloc | apply Kd.R_drewN | apply Kd.R_drew)); exact HO248.out) hb)
                  have n1_ := Aside0.mk (Kd.R_below (by (with_reducible repeat (first | apply Kd.R_alloc | apply Kd.R_drewN | apply Kd.R_drew)); exact HO253.out) hb)
                  have n2_ := Aside0.mk (Kd.R_below (by (with_reducible repeat (first | apply Kd.R_alloc | apply Kd.R_drewN | apply Kd.R_drew)); exact HO259.out) hb)
                  have n3_ := Aside0.mk (blk_below (g := w.heap.size) (o := .cells #[.int .i64 4, .int .i64 2, .int .i64 0, .int .i64 0, .string ⟨#[]⟩, .string ⟨#[]⟩, .bool false, .int .i64 0] 23 (0, 0)) (by (with_reducible repeat (first | refine blk_drewN ?_ _ | refine blk_drew ?_ | refine blk_alloc ?_ _)); exact BK187.out) hb)
                  have n4_ := Aside0.mk (blk_below (g := (w.heap.size + 1)) (o := .cells #[.int .i64 0, .int .i64 1, .int .i64 3, .int .i64 0, .string (⟨#[97, 47, 98]⟩ : ByteArray), .string (⟨#[120, 121]⟩ : ByteArray), .bool false, .int .i64 9] 23 (0, 0)) (by (with_reducible repeat (first | refine blk_drewN ?_ _ | refine blk_drew ?_ | refine blk_alloc ?_ _)); exact BK188.out) hb)
                  have n5_ := Aside0.mk (blk_below (g := (w.heap.size + 2)) (o := .cells #[.int .i64 3, .int .i64 0, .int .i64 1, .int .i64 0, .string (⟨#[35]⟩ : ByteArray), .string ⟨#[]⟩, .bool true, .int .i64 0] 23 (0, 0)) (by (with_reducible repeat (first | refine blk_drewN ?_ _ | refine blk_drew ?_ | refine blk_alloc ?_ _)); exact BK189.out) hb)
                  have n6_ := Aside0.mk (blk_below (g := x1.heap.size) (o := .cells #[.int .i64 4, .int .i64 2, .int .i64 0, .int .i64 0, .string ⟨#[]⟩, .string ⟨#[]⟩, .bool false, .int .i64 0] 23 (0, 0)) (by (with_reducible repeat (first | refine blk_drewN ?_ _ | refine blk_drew ?_ | refine blk_alloc ?_ _)); exact BK200.out) hb)
                  have n7_ := Aside0.mk (blk_below (g := x2.heap.size) (o := .cells #[.int .i64 t201, .int .i64 t202, .int .i64 t203, .int .i64 t204, .string t205, .string t206, .bool t207, .int .i64 t208] 23 (0, 0)) (by (with_reducible repeat (first | refine blk_drewN ?_ _ | refine blk_drew ?_ | refine blk_alloc ?_ _)); exact BK211.out) hb)
                  have n8_ := Aside0.mk (blk_below (g := x3.heap.size) (o := .cells #[.int .i64 t212, .int .i64 t213, .int .i64 t214, .int .i64 t215, .string t216, .string t217, .bool t218, .int .i64 t219] 23 (0, 0)) (by (with_reducible repeat (first | refine blk_drewN ?_ _ | refine blk_drew ?_ | refine blk_alloc ?_ _)); exact BK222.out) hb)
                  have n9_ := Aside0.mk (blk_below (g := x4.heap.size) (o := .cells #[.int .i64 t223, .int .i64 t224, .int .i64 t225, .int .i64 t226, .string t227, .string t228, .bool t229, .int .i64 t230] 23 (0, 0)) (by (with_reducible repeat (first | refine blk_drewN ?_ _ | refine blk_drew ?_ | refine blk_alloc ?_ _)); exact BK233.out) hb)
                  have n10_ := Aside0.mk (blk_below (g := x5.heap.size) (o := .cells #[.int .i64 t234, .int .i64 t235, .int .i64 t236, .int .i64 t237, .string t238, .string t239, .bool t240, .int .i64 t241] 23 (0, 0)) (by (with_reducible repeat (first | refine blk_drewN ?_ _ | refine blk_drew ?_ | refine blk_alloc ?_ _)); exact BK244.out) hb)
                  have n11_ := Aside0.mk (blk_below (g := x6.heap.size) (o := .cells #[.int .i64 4, .int .i64 2, .int .i64 1, .int .i64 0, .string ⟨#[]⟩, .string ⟨#[]⟩, .bool false, .int .i64 0] 23 (0, 0)) (by (with_reducible repeat (first | refine blk_drewN ?_ _ | refine blk_drew ?_ | refine blk_alloc ?_ _)); exact BK249.out) hb)
                  have n12_ := Aside0.mk (below_step (by repeat (first | (with_reducible first | exact HB.out | apply below_alloc | apply pw_below_drewN | apply below_drew1) | exact HB.out)) hb)
                  clear HO248
                  clear HO253
                  clear HO259
                  clear BK187
                  clear BK188
                  clear BK189
                  clear BK200
                  clear BK211
                  clear BK222
                  clear BK233
                  clear BK244
                  clear BK249
                  clear HB
                  have HO248 := n0_
                  have HO253 := n1_
                  have HO259 := n2_
                  have BK187 := n3_
                  have BK188 := n4_
                  have BK189 := n5_
                  have BK200 := n6_
                  have BK211 := n7_
                  have BK222 := n8_
                  have BK233 := n9_
                  have BK244 := n10_
                  have BK249 := n11_
                  have HB := n12_
                  clear n0_ n1_ n2_ n3_ n4_ n5_ n6_ n7_ n8_ n9_ n10_ n11_ n12_
                  (try clear hb)
                  (try clear hb2)
                  (try clear hk)
                  (try clear hi)
                  refine hK.out _ _ (and8 BK187.out (and8 BK200.out (and8 BK188.out (and8 BK189.out (last8 BK249.out))))) (fun hHeld => ?_)
                  clear hK K
                  refine norm_ (a' := ?_) ?_ ?_
                  rotate_left
                  ·show Act.put _ (some 134) _ = _
                   simp only [Act.put, List.setIfInBounds_toArray, List.set_cons_zero, List.set_cons_succ, i64_w, i32_w]
                   rfl
                  refine pure_ (i := 79) (N := some 135) (v := ?_) (a' := ?_) (List.toArray (List.replicate 80 true ++ List.replicate 8 false)) rfl rfl (any_of HT_.out (by kernel_rfl)) (fun _ _ _ h => h) (Or.inl ⟨by rfl, ?_⟩) ?_ ?_
                  rotate_left
                  ·intro w'
                   go_simp
                   with_reducible rfl
                  rotate_left
                  ·simp only [Act.put, List.setIfInBounds_toArray, List.set_cons_zero, List.set_cons_succ, i64_w, i32_w]
                   rfl
                  refine pure_ (i := 80) (N := some 136) (v := ?_) (a' := ?_) (List.toArray (List.replicate 81 true ++ [false, false, false, false, false, false, false])) rfl rfl (any_of HT_.out (by kernel_rfl)) (fun _ _ _ h => h) (Or.inl ⟨by rfl, ?_⟩) ?_ ?_
                  rotate_left
                  ·intro w'
                   go_simp
                   with_reducible rfl
                  rotate_left
                  ·simp only [Act.put, List.setIfInBounds_toArray, List.set_cons_zero, List.set_cons_succ, i64_w, i32_w]
                   rfl
                  refine pure_ (i := 81) (N := some 137) (v := ?_) (a' := ?_) (List.toArray (List.replicate 82 true ++ [false, false, false, false, false, false])) rfl rfl (any_of HT_.out (by kernel_rfl)) (fun _ _ _ h => h) (Or.inl ⟨by rfl, ?_⟩) ?_ ?_
                  rotate_left
                  ·intro w'
                   go_simp
                   with_reducible rfl
                  rotate_left
                  ·simp only [Act.put, List.setIfInBounds_toArray, List.set_cons_zero, List.set_cons_succ, i64_w, i32_w]
                   rfl
                  refine pure_ (i := 82) (N := some 138) (v := ?_) (a' := ?_) (List.toArray (List.replicate 83 true ++ [false, false, false, false, false])) rfl rfl (any_of HT_.out (by kernel_rfl)) (fun _ _ _ h => h) (Or.inl ⟨by rfl, ?_⟩) ?_ ?_
                  rotate_left
                  ·intro w'
                   go_simp
                   with_reducible rfl
                  rotate_left
                  ·simp only [Act.put, List.setIfInBounds_toArray, List.set_cons_zero, List.set_cons_succ, i64_w, i32_w]
                   rfl
                  refine pure_ (i := 84) (N := some 140) (v := ?_) (a' := ?_) (List.toArray (List.replicate 83 true ++ [false, true, false, false, false])) rfl rfl (any_of HT_.out (by kernel_rfl)) (fun _ _ _ h => h) (Or.inl ⟨by rfl, ?_⟩) ?_ ?_
                  rotate_left
                  ·intro w'
                   go_simp
                   with_reducible rfl
                  rotate_left
                  ·simp only [Act.put, List.setIfInBounds_toArray, List.set_cons_zero, List.set_cons_succ, i64_w, i32_w]
                   rfl
                  refine one_ (i := 83) (N := some 139) (List.toArray (List.replicate 85 true ++ [false, false, false])) rfl rfl (one_of HT_.out (by kernel_rfl)) (by decide) (fun K hK => ?_)
                  refine goes_ Tryd.func13 (by kernel_rfl) rfl #[.agg #[.int .i64 11, .int .i64 0, .int .i64 3, .int .i64 0, .string ⟨#[]⟩, .string ⟨#[]⟩, .bool false, .int .i64 0]] (by rfl) rfl rfl (by (try simp only [List.map_toArray, List.map_cons, List.map_nil]); first | done | rfl | (simp only [List.length_drop, List.length_take]; rfl)) ?_
                  with_reducible refine (script_Bare.calls 11 0 3 0 ⟨#[]⟩ ⟨#[]⟩ false 0 t272 t273 t274 t275 t276 t277 t278 t279 _ A33.out).mono ?_
                  rintro e w112 ⟨rfl, hb⟩
                  refine ⟨_, rfl, ?_⟩
                  have n0_ := Aside0.mk (Kd.R_below (by (with_reducible repeat (first | apply Kd.R_alloc | apply Kd.R_drewN | apply Kd.R_drew)); exact HO248.out) hb)
                  have n1_ := Aside0.mk (Kd.R_below (by (with_reducible repeat (first | apply Kd.R_alloc | apply Kd.R_drewN | apply Kd.R_drew)); exact HO253.out) hb)
                  have n2_ := Aside0.mk (Kd.R_below (by (with_reducible repeat (first | apply Kd.R_alloc | apply Kd.R_drewN | apply Kd.R_drew)); exact HO259.out) hb)
                  have n3_ := Aside0.mk (blk_below (g := w.heap.size) (o := .cells #[.int .i64 4, .int .i64 2, .int .i64 0, .int .i64 0, .string ⟨#[]⟩, .string ⟨#[]⟩, .bool false, .int .i64 0] 23 (0, 0)) (by (with_reducible repeat (first | refine blk_drewN ?_ _ | refine blk_drew ?_ | refine blk_alloc ?_ _)); exact BK187.out) hb)
                  have n4_ := Aside0.mk (blk_below (g := (w.heap.size + 1)) (o := .cells #[.int .i64 0, .int .i64 1, .int .i64 3, .int .i64 0, .string (⟨#[97, 47, 98]⟩ : ByteArray), .string (⟨#[120, 121]⟩ : ByteArray), .bool false, .int .i64 9] 23 (0, 0)) (by (with_reducible repeat (first | refine blk_drewN ?_ _ | refine blk_drew ?_ | refine blk_alloc ?_ _)); exact BK188.out) hb)
                  have n5_ := Aside0.mk (blk_below (g := (w.heap.size + 2)) (o := .cells #[.int .i64 3, .int .i64 0, .int .i64 1, .int .i64 0, .string (⟨#[35]⟩ : ByteArray), .string ⟨#[]⟩, .bool true, .int .i64 0] 23 (0, 0)) (by (with_reducible repeat (first | refine blk_drewN ?_ _ | refine blk_drew ?_ | refine blk_alloc ?_ _)); exact BK189.out) hb)
                  have n6_ := Aside0.mk (blk_below (g := x1.heap.size) (o := .cells #[.int .i64 4, .int .i64 2, .int .i64 0, .int .i64 0, .string ⟨#[]⟩, .string ⟨#[]⟩, .bool false, .int .i64 0] 23 (0, 0)) (by (with_reducible repeat (first | refine blk_drewN ?_ _ | refine blk_drew ?_ | refine blk_alloc ?_ _)); exact BK200.out) hb)
                  have n7_ := Aside0.mk (blk_below (g := x2.heap.size) (o := .cells #[.int .i64 t201, .int .i64 t202, .int .i64 t203, .int .i64 t204, .string t205, .string t206, .bool t207, .int .i64 t208] 23 (0, 0)) (by (with_reducible repeat (first | refine blk_drewN ?_ _ | refine blk_drew ?_ | refine blk_alloc ?_ _)); exact BK211.out) hb)
                  have n8_ := Aside0.mk (blk_below (g := x3.heap.size) (o := .cells #[.int .i64 t212, .int .i64 t213, .int .i64 t214, .int .i64 t215, .string t216, .string t217, .bool t218, .int .i64 t219] 23 (0, 0)) (by (with_reducible repeat (first | refine blk_drewN ?_ _ | refine blk_drew ?_ | refine blk_alloc ?_ _)); exact BK222.out) hb)
                  have n9_ := Aside0.mk (blk_below (g := x4.heap.size) (o := .cells #[.int .i64 t223, .int .i64 t224, .int .i64 t225, .int .i64 t226, .string t227, .string t228, .bool t229, .int .i64 t230] 23 (0, 0)) (by (with_reducible repeat (first | refine blk_drewN ?_ _ | refine blk_drew ?_ | refine blk_alloc ?_ _)); exact BK233.out) hb)
                  have n10_ := Aside0.mk (blk_below (g := x5.heap.size) (o := .cells #[.int .i64 t234, .int .i64 t235, .int .i64 t236, .int .i64 t237, .string t238, .string t239, .bool t240, .int .i64 t241] 23 (0, 0)) (by (with_reducible repeat (first | refine blk_drewN ?_ _ | refine blk_drew ?_ | refine blk_alloc ?_ _)); exact BK244.out) hb)
                  have n11_ := Aside0.mk (blk_below (g := x6.heap.size) (o := .cells #[.int .i64 4, .int .i64 2, .int .i64 1, .int .i64 0, .string ⟨#[]⟩, .string ⟨#[]⟩, .bool false, .int .i64 0] 23 (0, 0)) (by (with_reducible repeat (first | refine blk_drewN ?_ _ | refine blk_drew ?_ | refine blk_alloc ?_ _)); exact BK249.out) hb)
                  have n12_ := Aside0.mk (below_step (by repeat (first | (with_reducible first | exact HB.out | apply below_alloc | apply pw_below_drewN | apply below_drew1) | exact HB.out)) hb)
                  clear HO248
                  clear HO253
                  clear HO259
                  clear BK187
                  clear BK188
                  clear BK189
                  clear BK200
                  clear BK211
                  clear BK222
                  clear BK233
                  clear BK244
                  clear BK249
                  clear HB
                  have HO248 := n0_
                  have HO253 := n1_
                  have HO259 := n2_
                  have BK187 := n3_
                  have BK188 := n4_
                  have BK189 := n5_
                  have BK200 := n6_
                  have BK211 := n7_
                  have BK222 := n8_
                  have BK233 := n9_
                  have BK244 := n10_
                  have BK249 := n11_
                  have HB := n12_
                  clear n0_ n1_ n2_ n3_ n4_ n5_ n6_ n7_ n8_ n9_ n10_ n11_ n12_
                  (try clear hb)
                  (try clear hb2)
                  (try clear hk)
                  (try clear hi)
                  refine hK.out _ _ (and8 BK187.out (and8 BK200.out (and8 BK188.out (and8 BK189.out (last8 BK249.out))))) (fun hHeld => ?_)
                  clear hK K
                  refine norm_ (a' := ?_) ?_ ?_
                  rotate_left
                  ·show Act.put _ (some 139) _ = _
                   simp only [Act.put, List.setIfInBounds_toArray, List.set_cons_zero, List.set_cons_succ, i64_w, i32_w]
                   rfl
                  refine pure_ (i := 85) (N := some 141) (v := ?_) (a' := ?_) (List.toArray (List.replicate 86 true ++ [false, false])) rfl rfl (any_of HT_.out (by kernel_rfl)) (fun _ _ _ h => h) (Or.inl ⟨by rfl, ?_⟩) ?_ ?_
                  rotate_left
                  ·intro w'
                   go_simp
                   with_reducible rfl
                  rotate_left
                  ·simp only [Act.put, List.setIfInBounds_toArray, List.set_cons_zero, List.set_cons_succ, i64_w, i32_w]
                   rfl
                  refine pure_ (i := 86) (N := some 142) (v := ?_) (a' := ?_) (List.toArray (List.replicate 87 true ++ [false])) rfl rfl (any_of HT_.out (by kernel_rfl)) (fun _ _ _ h => h) (Or.inl ⟨by rfl, ?_⟩) ?_ ?_
                  rotate_left
                  ·intro w'
                   go_simp
                   with_reducible rfl
                  rotate_left
                  ·simp only [Act.put, List.setIfInBounds_toArray, List.set_cons_zero, List.set_cons_succ, i64_w, i32_w]
                   rfl
                  refine pure_ (i := 87) (N := some 0) (v := ?_) (a' := ?_) (List.toArray (List.replicate 88 true)) rfl rfl (any_of HT_.out (by kernel_rfl)) (fun _ _ _ h => h) (Or.inl ⟨by rfl, ?_⟩) ?_ ?_
                  rotate_left
                  ·intro w'
                   go_simp
                   with_reducible rfl
                  rotate_left
                  ·simp only [Act.put, List.setIfInBounds_toArray, List.set_cons_zero, List.set_cons_succ, i64_w, i32_w]
                   rfl
                  refine done_ (done_of HT_.out (by kernel_rfl)) ?_
                  try go_wp2
                  go_ret
                  exact ⟨by first | rfl | (simp [errW_none, errW_some] <;> rfl) | (simp [*, errW_none, errW_some] <;> rfl), by repeat (first | (with_reducible first | exact HB.out | apply below_alloc | apply pw_below_drewN | apply below_drew1) | exact HB.out)⟩
                 ·rw [if_neg c32] at H
                  have c32b0 : (t271.toList == ([] : List UInt8)) = false := beq_eq_false_iff_ne.mpr c32
                  have c32b1 : (t271.toList != ([] : List UInt8)) = true := bne_iff_ne.mpr c32
                  exact absurd (Option.some.inj H) (by rw [hr_.out]; decide)
                ·rw [if_neg c30] at H
                 have c30b0 : (t270.toList == ([115, 116, 97, 114, 116] : List UInt8)) = false := beq_eq_false_iff_ne.mpr c30
                 have c30b1 : (t270.toList != ([115, 116, 97, 114, 116] : List UInt8)) = true := bne_iff_ne.mpr c30
                 exact absurd (Option.some.inj H) (by rw [hr_.out]; decide)
               ·rw [if_neg c28] at H
                have c28b0 : (t262 == 4 && (t263 == 2 && (t264 == 0 && (t265 == 0 && (t266.toList == ([] : List UInt8) && (t267.toList == ([] : List UInt8) && (!t268 && (t269 == 0)))))))) = false := by simpa using c28
                (try (have c28b1 : decide (t262 = 4 && (t263 == 2 && (t264 == 0 && (t265 == 0 && (t266.toList == ([] : List UInt8) && (t267.toList == ([] : List UInt8) && (!t268 && (t269 == 0)))))))) = false := by simpa using c28))
                (try (have c28b2 : (t262 == 4 && (t263 == 2 && (t264 == 0 && (t265 == 0 && (t266.toList == ([] : List UInt8) && (t267.toList == ([] : List UInt8) && (!t268 && (t269 == 0)))))))) = false := by simpa using c28))
                (try (have c28b3 : ¬ (t262 = 4 && (t263 == 2 && (t264 == 0 && (t265 == 0 && (t266.toList == ([] : List UInt8) && (t267.toList == ([] : List UInt8) && (!t268 && (t269 == 0)))))))) := by simpa using c28))
                clear c28
                exact absurd (Option.some.inj H) (by rw [hr_.out]; decide)
             ·rw [if_neg c24] at H
              have c24b0 : (t260.toList == ([116, 105, 99, 107, 32, 50, 10, 112, 117, 98, 108, 105, 115, 104, 32, 49, 32, 51, 32, 57, 32, 97, 47, 98, 32, 50, 10, 97, 115, 107, 32, 48, 32, 49, 32, 111, 110, 32, 35, 10] : List UInt8)) = false := beq_eq_false_iff_ne.mpr c24
              have c24b1 : (t260.toList != ([116, 105, 99, 107, 32, 50, 10, 112, 117, 98, 108, 105, 115, 104, 32, 49, 32, 51, 32, 57, 32, 97, 47, 98, 32, 50, 10, 97, 115, 107, 32, 48, 32, 49, 32, 111, 110, 32, 35, 10] : List UInt8)) = true := bne_iff_ne.mpr c24
              exact absurd (Option.some.inj H) (by rw [hr_.out]; decide)
            ·rw [if_neg c22] at H
             have c22b0 : (t256.toList == ([3, 0, 1, 1, 1, 35] : List UInt8)) = false := beq_eq_false_iff_ne.mpr c22
             have c22b1 : (t256.toList != ([3, 0, 1, 1, 1, 35] : List UInt8)) = true := bne_iff_ne.mpr c22
             exact absurd (Option.some.inj H) (by rw [hr_.out]; decide)
           ·rw [if_neg c20] at H
            have c20b0 : (t255.toList == ([0, 1, 3, 9, 3, 97, 47, 98, 2, 120, 121] : List UInt8)) = false := beq_eq_false_iff_ne.mpr c20
            have c20b1 : (t255.toList != ([0, 1, 3, 9, 3, 97, 47, 98, 2, 120, 121] : List UInt8)) = true := bne_iff_ne.mpr c20
            exact absurd (Option.some.inj H) (by rw [hr_.out]; decide)
          ·rw [if_neg c18] at H
           have c18b0 : (t246 == 4) = false := beq_eq_false_iff_ne.mpr c18
           have c18b1 : (t246 != 4) = true := bne_iff_ne.mpr c18
           exact absurd (Option.some.inj H) (by rw [hr_.out]; decide)
         ·replace c17 := Bool.eq_false_iff.mpr c17
          subst c17
          have H1 : (some false) = some r := by rw [if_neg (show ¬ (false = true) by decide)] at H; exact H
          clear H
          have H := H1
          clear H1
          exact absurd (Option.some.inj H) (by rw [hr_.out]; decide)
        ·rw [if_neg c15] at H
         have c15b0 : (t243 == 1) = false := beq_eq_false_iff_ne.mpr c15
         have c15b1 : (t243 != 1) = true := bne_iff_ne.mpr c15
         exact absurd (Option.some.inj H) (by rw [hr_.out]; decide)
       ·rw [if_neg c14] at H
        have c14b0 : (t232 == 3) = false := beq_eq_false_iff_ne.mpr c14
        have c14b1 : (t232 != 3) = true := bne_iff_ne.mpr c14
        exact absurd (Option.some.inj H) (by rw [hr_.out]; decide)
      ·rw [if_neg c13] at H
       have c13b0 : (t221 == 6) = false := beq_eq_false_iff_ne.mpr c13
       have c13b1 : (t221 != 6) = true := bne_iff_ne.mpr c13
       exact absurd (Option.some.inj H) (by rw [hr_.out]; decide)
     ·rw [if_neg c12] at H
      have c12b0 : (t210 == 4) = false := beq_eq_false_iff_ne.mpr c12
      have c12b1 : (t210 != 4) = true := bne_iff_ne.mpr c12
      exact absurd (Option.some.inj H) (by rw [hr_.out]; decide)
    ·rw [if_neg c11] at H
     have c11b0 : (t199 == 0) = false := beq_eq_false_iff_ne.mpr c11
     have c11b1 : (t199 != 0) = true := bne_iff_ne.mpr c11
     exact absurd (Option.some.inj H) (by rw [hr_.out]; decide)
   ·rw [if_neg c10] at H
    have c10b0 : (t198 == 3) = false := beq_eq_false_iff_ne.mpr c10
    have c10b1 : (t198 != 3) = true := bne_iff_ne.mpr c10
    exact absurd (Option.some.inj H) (by rw [hr_.out]; decide)
  ·rw [if_neg c9] at H
   have c9b0 : (t190 == 4 && (t191 == 2 && (t192 == 0 && (t193 == 0 && (t194.toList == ([] : List UInt8) && (t195.toList == ([] : List UInt8) && (!t196 && (t197 == 0)))))))) = false := by simpa using c9
   (try (have c9b1 : decide (t190 = 4 && (t191 == 2 && (t192 == 0 && (t193 == 0 && (t194.toList == ([] : List UInt8) && (t195.toList == ([] : List UInt8) && (!t196 && (t197 == 0)))))))) = false := by simpa using c9))
   (try (have c9b2 : (t190 == 4 && (t191 == 2 && (t192 == 0 && (t193 == 0 && (t194.toList == ([] : List UInt8) && (t195.toList == ([] : List UInt8) && (!t196 && (t197 == 0)))))))) = false := by simpa using c9))
   (try (have c9b3 : ¬ (t190 = 4 && (t191 == 2 && (t192 == 0 && (t193 == 0 && (t194.toList == ([] : List UInt8) && (t195.toList == ([] : List UInt8) && (!t196 && (t197 == 0)))))))) := by simpa using c9))
   clear c9
   exact absurd (Option.some.inj H) (by rw [hr_.out]; decide)
 ·rw [if_neg c8] at H
  have c8b0 : (t250.toList == ([4, 2] : List UInt8)) = false := beq_eq_false_iff_ne.mpr c8
  have c8b1 : (t250.toList != ([4, 2] : List UInt8)) = true := bne_iff_ne.mpr c8
  exact absurd (Option.some.inj H) (by rw [hr_.out]; decide)
end Go.Proofs.YtjjimkmbbifbjaaDoor.Pr
