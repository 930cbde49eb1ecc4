import Derived.Test.YtjjimkmbbifbjaaDoorKPuts37
import Derived.Test.YtjjimkmbbifbjaaDoorKPuts38
import Derived.Test.YtjjimkmbbifbjaaDoorKPuts40
namespace Go.Proofs.YtjjimkmbbifbjaaDoor.Pr
open Go.RowKit Go.Proofs.YtjjimkmbbifbjaaDoorW.PrintWords Go.Proofs.YtjjimkmbbifbjaaDoorW.PrintLast Go.Proofs.YtjjimkmbbifbjaaDoorW.PrintMore
attribute [local go_sem] max2_int min2_int max_two min_two max_three min_three max_four min_four
set_option linter.unusedVariables false
set_option linter.unusedSimpArgs false
attribute [local go_sem high] eqA23
def rivuletlaw23_ScriptPuts.f (k : Nat) (a0_0 : Int) (a0_1 : Int) (a0_2 : Int) (a0_3 : Int) (a0_4 : ByteArray) (a0_5 : ByteArray) (a0_6 : Bool) (a0_7 : Int) (a1 : Int) (l2 : List (S23)) : Option (Bool) := (rivuletlaw23_cut.f a0_0 a0_1 a0_2 a0_3 a0_4 a0_5 a0_6 a0_7).bind fun bt281 => ((rivuletlaw23_Cut.f k l2).bind fun t289 => ((script_Right.f bt281.1 bt281.2.1 bt281.2.2.1 bt281.2.2.2.1 bt281.2.2.2.2.1 bt281.2.2.2.2.2.1 bt281.2.2.2.2.2.2.1 bt281.2.2.2.2.2.2.2).bind fun t292 => ((rivuletref23_Right.f bt281.1 bt281.2.1 bt281.2.2.1 bt281.2.2.2.1 bt281.2.2.2.2.1 bt281.2.2.2.2.2.1 bt281.2.2.2.2.2.2.1 bt281.2.2.2.2.2.2.2).bind fun t293 => (if (t292 == t293) = true then ((script_Bare.f bt281.1 bt281.2.1 bt281.2.2.1 bt281.2.2.2.1 bt281.2.2.2.2.1 bt281.2.2.2.2.2.1 bt281.2.2.2.2.2.2.1 bt281.2.2.2.2.2.2.2).bind fun bt294 => ((rivuletref23_Bare.f bt281.1 bt281.2.1 bt281.2.2.1 bt281.2.2.2.1 bt281.2.2.2.2.1 bt281.2.2.2.2.2.1 bt281.2.2.2.2.2.2.1 bt281.2.2.2.2.2.2.2).bind fun bt302 => (if (bt294.1 == bt302.1 && (bt294.2.1 == bt302.2.1 && (bt294.2.2.1 == bt302.2.2.1 && (bt294.2.2.2.1 == bt302.2.2.2.1 && (bt294.2.2.2.2.1.toList == bt302.2.2.2.2.1.toList && (bt294.2.2.2.2.2.1.toList == bt302.2.2.2.2.2.1.toList && (bt294.2.2.2.2.2.2.1 == bt302.2.2.2.2.2.2.1 && (bt294.2.2.2.2.2.2.2 == bt302.2.2.2.2.2.2.2)))))))) = true then ((script_Put.f bt281.1 bt281.2.1 bt281.2.2.1 bt281.2.2.2.1 bt281.2.2.2.2.1 bt281.2.2.2.2.2.1 bt281.2.2.2.2.2.2.1 bt281.2.2.2.2.2.2.2).bind fun t310 => ((rivuletref23_Put.f bt281.1 bt281.2.1 bt281.2.2.1 bt281.2.2.2.1 bt281.2.2.2.2.1 bt281.2.2.2.2.2.1 bt281.2.2.2.2.2.2.1 bt281.2.2.2.2.2.2.2).bind fun t311 => (if t310.toList = t311.toList then ((script_Name.f a1).bind fun t312 => ((rivuletref23_Name.f a1).bind fun t313 => (if t312.toList = t313.toList then ((script_Show.fT t289).bind fun t314 => ((rivuletref23_Show.f k t289).bind fun t315 => (if t314.toList = t315.toList then ((rivuletlaw23_fixed.f k).bind fun t316 => (some t316)) else (some false)))) else (some false)))) else (some false)))) else (some false)))) else (some false)))))
def rivuletlaw23_ScriptPuts.T3 : Bool × List (List Nat × List Nat) := (true, [([], []), ([0], [0]), ([], []), ([2, 1], [2]), ([1, 3], [1, 3]), ([4, 3], [4]), ([5], [5]), ([6, 5, 5], [5, 6]), ([5], [5]), ([8, 7, 5], [5, 8]), ([7, 9, 5], [5, 7, 9]), ([5, 10], [5, 10]), ([11, 9], [11]), ([12], [12]), ([13, 12, 12], [12, 13]), ([12], [12]), ([15, 14, 12], [12, 15]), ([14, 16, 12], [12, 14, 16]), ([12, 17], [12, 17]), ([18, 16], [18]), ([19], [19]), ([20, 19, 19], [19, 20]), ([19], [19]), ([22, 21, 19], [19, 22]), ([21, 23, 19], [19, 21, 23]), ([19, 24], [19, 24]), ([25, 23], [25]), ([26], [26]), ([27, 26, 26], [26, 27]), ([26], [26]), ([29, 28, 26], [26, 29]), ([28, 30, 26], [26, 28, 30]), ([26, 31], [26, 31]), ([32, 30], [32]), ([33, 33], [33]), ([33, 34], [33, 34]), ([35, 34, 0, 1, 2, 3, 4, 5, 6, 7, 8, 9, 10, 11, 12, 13, 14, 15, 16, 17, 18, 19, 20, 21, 22, 23, 24, 25, 26, 27, 28, 29, 30, 31, 32, 33, 34, 35], [35])])
def rivuletlaw23_ScriptPuts.B3 : List Nat := [0, 1, 0, 7, 15, 31, 63, 127, 63, 511, 1023, 2047, 4095, 8191, 16383, 8191, 65535, 131071, 262143, 524287, 1048575, 2097151, 1048575, 8388607, 16777215, 33554431, 67108863, 134217727, 268435455, 134217727, 1073741823, 2147483647, 4294967295, 8589934591, 17179869183, 34359738367, 68719476735]
theorem rivuletlaw23_ScriptPuts.tab3 : rtab .any (opsOf Tryd.f3 3) = rivuletlaw23_ScriptPuts.T3 := by kernel_rfl
theorem rivuletlaw23_ScriptPuts.bits3 : waitsOk rivuletlaw23_ScriptPuts.T3.2 rivuletlaw23_ScriptPuts.B3 = true := by kernel_rfl
set_option maxHeartbeats 8000000 in
set_option maxRecDepth 100000 in
theorem rivuletlaw23_ScriptPuts.calls (k : Nat) (a0_0 : Int) (a0_1 : Int) (a0_2 : Int) (a0_3 : Int) (a0_4 : ByteArray) (a0_5 : ByteArray) (a0_6 : Bool) (a0_7 : Int) (a1 : Int) (A2 : Option Addr) (c2 : Nat) (l2 : List (S23)) (r : Bool) (w : World) (hr2 : Kd.C k23 w A2 l2.length l2) (hc2 : l2.length ≤ c2) (hT_ : Aside0 (SP.Tab w.heap.size w)) (hr_ : Aside0 (r = true)) (h : rivuletlaw23_ScriptPuts.f k a0_0 a0_1 a0_2 a0_3 a0_4 a0_5 a0_6 a0_7 a1 l2 = some r) :
  Calls Tryd.prog 3 #[.agg #[.int .i64 a0_0, .int .i64 a0_1, .int .i64 a0_2, .int .i64 a0_3, .string a0_4, .string a0_5, .bool a0_6, .int .i64 a0_7], .int .i64 a1, .slice A2 l2.length c2] w fun e w' => e = .returned (.bool r) ∧ Below w.heap.size w w' := by
 have hu23 := Tryd.underlying23
 have HR2 := Aside0.mk hr2
 have HC2 := Aside0.mk hc2
 clear hr2 hc2
 have HB := Aside0.mk (Below.refl w.heap.size w)
 have H : ((rivuletlaw23_cut.f a0_0 a0_1 a0_2 a0_3 a0_4 a0_5 a0_6 a0_7).bind fun bt281 => ((rivuletlaw23_Cut.f k l2).bind fun t289 => ((script_Right.f bt281.1 bt281.2.1 bt281.2.2.1 bt281.2.2.2.1 bt281.2.2.2.2.1 bt281.2.2.2.2.2.1 bt281.2.2.2.2.2.2.1 bt281.2.2.2.2.2.2.2).bind fun t292 => ((rivuletref23_Right.f bt281.1 bt281.2.1 bt281.2.2.1 bt281.2.2.2.1 bt281.2.2.2.2.1 bt281.2.2.2.2.2.1 bt281.2.2.2.2.2.2.1 bt281.2.2.2.2.2.2.2).bind fun t293 => (if (t292 == t293) = true then ((script_Bare.f bt281.1 bt281.2.1 bt281.2.2.1 bt281.2.2.2.1 bt281.2.2.2.2.1 bt281.2.2.2.2.2.1 bt281.2.2.2.2.2.2.1 bt281.2.2.2.2.2.2.2).bind fun bt294 => ((rivuletref23_Bare.f bt281.1 bt281.2.1 bt281.2.2.1 bt281.2.2.2.1 bt281.2.2.2.2.1 bt281.2.2.2.2.2.1 bt281.2.2.2.2.2.2.1 bt281.2.2.2.2.2.2.2).bind fun bt302 => (if (bt294.1 == bt302.1 && (bt294.2.1 == bt302.2.1 && (bt294.2.2.1 == bt302.2.2.1 && (bt294.2.2.2.1 == bt302.2.2.2.1 && (bt294.2.2.2.2.1.toList == bt302.2.2.2.2.1.toList && (bt294.2.2.2.2.2.1.toList == bt302.2.2.2.2.2.1.toList && (bt294.2.2.2.2.2.2.1 == bt302.2.2.2.2.2.2.1 && (bt294.2.2.2.2.2.2.2 == bt302.2.2.2.2.2.2.2)))))))) = true then ((script_Put.f bt281.1 bt281.2.1 bt281.2.2.1 bt281.2.2.2.1 bt281.2.2.2.2.1 bt281.2.2.2.2.2.1 bt281.2.2.2.2.2.2.1 bt281.2.2.2.2.2.2.2).bind fun t310 => ((rivuletref23_Put.f bt281.1 bt281.2.1 bt281.2.2.1 bt281.2.2.2.1 bt281.2.2.2.2.1 bt281.2.2.2.2.2.1 bt281.2.2.2.2.2.2.1 bt281.2.2.2.2.2.2.2).bind fun t311 => (if t310.toList = t311.toList then ((script_Name.f a1).bind fun t312 => ((rivuletref23_Name.f a1).bind fun t313 => (if t312.toList = t313.toList then ((script_Show.fT t289).bind fun t314 => ((rivuletref23_Show.f k t289).bind fun t315 => (if t314.toList = t315.toList then ((rivuletlaw23_fixed.f k).bind fun t316 => (some t316)) else (some false)))) else (some false)))) else (some false)))) else (some false)))) else (some false)))))) = some r := h
 clear h
 replace H := Option.bind_eq_some_iff.mp H
 obtain ⟨⟨t281, t282, t283, t284, t285, t286, t287, t288⟩, A40, H⟩ := H
 replace H : ((rivuletlaw23_Cut.f k l2).bind fun t289 => ((script_Right.f t281 t282 t283 t284 t285 t286 t287 t288).bind fun t292 => ((rivuletref23_Right.f t281 t282 t283 t284 t285 t286 t287 t288).bind fun t293 => (if (t292 == t293) = true then ((script_Bare.f t281 t282 t283 t284 t285 t286 t287 t288).bind fun bt294 => ((rivuletref23_Bare.f t281 t282 t283 t284 t285 t286 t287 t288).bind fun bt302 => (if (bt294.1 == bt302.1 && (bt294.2.1 == bt302.2.1 && (bt294.2.2.1 == bt302.2.2.1 && (bt294.2.2.2.1 == bt302.2.2.2.1 && (bt294.2.2.2.2.1.toList == bt302.2.2.2.2.1.toList && (bt294.2.2.2.2.2.1.toList == bt302.2.2.2.2.2.1.toList && (bt294.2.2.2.2.2.2.1 == bt302.2.2.2.2.2.2.1 && (bt294.2.2.2.2.2.2.2 == bt302.2.2.2.2.2.2.2)))))))) = true then ((script_Put.f t281 t282 t283 t284 t285 t286 t287 t288).bind fun t310 => ((rivuletref23_Put.f t281 t282 t283 t284 t285 t286 t287 t288).bind fun t311 => (if t310.toList = t311.toList then ((script_Name.f a1).bind fun t312 => ((rivuletref23_Name.f a1).bind fun t313 => (if t312.toList = t313.toList then ((script_Show.fT t289).bind fun t314 => ((rivuletref23_Show.f k t289).bind fun t315 => (if t314.toList = t315.toList then ((rivuletlaw23_fixed.f k).bind fun t316 => (some t316)) else (some false)))) else (some false)))) else (some false)))) else (some false)))) else (some false))))) = some r := H
 have A4 := Aside0.mk A40
 clear A40
 replace H := Option.bind_eq_some_iff.mp H
 obtain ⟨t289, A50, H⟩ := H
 replace H : ((script_Right.f t281 t282 t283 t284 t285 t286 t287 t288).bind fun t292 => ((rivuletref23_Right.f t281 t282 t283 t284 t285 t286 t287 t288).bind fun t293 => (if (t292 == t293) = true then ((script_Bare.f t281 t282 t283 t284 t285 t286 t287 t288).bind fun bt294 => ((rivuletref23_Bare.f t281 t282 t283 t284 t285 t286 t287 t288).bind fun bt302 => (if (bt294.1 == bt302.1 && (bt294.2.1 == bt302.2.1 && (bt294.2.2.1 == bt302.2.2.1 && (bt294.2.2.2.1 == bt302.2.2.2.1 && (bt294.2.2.2.2.1.toList == bt302.2.2.2.2.1.toList && (bt294.2.2.2.2.2.1.toList == bt302.2.2.2.2.2.1.toList && (bt294.2.2.2.2.2.2.1 == bt302.2.2.2.2.2.2.1 && (bt294.2.2.2.2.2.2.2 == bt302.2.2.2.2.2.2.2)))))))) = true then ((script_Put.f t281 t282 t283 t284 t285 t286 t287 t288).bind fun t310 => ((rivuletref23_Put.f t281 t282 t283 t284 t285 t286 t287 t288).bind fun t311 => (if t310.toList = t311.toList then ((script_Name.f a1).bind fun t312 => ((rivuletref23_Name.f a1).bind fun t313 => (if t312.toList = t313.toList then ((script_Show.fT t289).bind fun t314 => ((rivuletref23_Show.f k t289).bind fun t315 => (if t314.toList = t315.toList then ((rivuletlaw23_fixed.f k).bind fun t316 => (some t316)) else (some false)))) else (some false)))) else (some false)))) else (some false)))) else (some false)))) = some r := H
 have A5 := Aside0.mk A50
 clear A50
 replace H := Option.bind_eq_some_iff.mp H
 obtain ⟨t292, A60, H⟩ := H
 replace H : ((rivuletref23_Right.f t281 t282 t283 t284 t285 t286 t287 t288).bind fun t293 => (if (t292 == t293) = true then ((script_Bare.f t281 t282 t283 t284 t285 t286 t287 t288).bind fun bt294 => ((rivuletref23_Bare.f t281 t282 t283 t284 t285 t286 t287 t288).bind fun bt302 => (if (bt294.1 == bt302.1 && (bt294.2.1 == bt302.2.1 && (bt294.2.2.1 == bt302.2.2.1 && (bt294.2.2.2.1 == bt302.2.2.2.1 && (bt294.2.2.2.2.1.toList == bt302.2.2.2.2.1.toList && (bt294.2.2.2.2.2.1.toList == bt302.2.2.2.2.2.1.toList && (bt294.2.2.2.2.2.2.1 == bt302.2.2.2.2.2.2.1 && (bt294.2.2.2.2.2.2.2 == bt302.2.2.2.2.2.2.2)))))))) = true then ((script_Put.f t281 t282 t283 t284 t285 t286 t287 t288).bind fun t310 => ((rivuletref23_Put.f t281 t282 t283 t284 t285 t286 t287 t288).bind fun t311 => (if t310.toList = t311.toList then ((script_Name.f a1).bind fun t312 => ((rivuletref23_Name.f a1).bind fun t313 => (if t312.toList = t313.toList then ((script_Show.fT t289).bind fun t314 => ((rivuletref23_Show.f k t289).bind fun t315 => (if t314.toList = t315.toList then ((rivuletlaw23_fixed.f k).bind fun t316 => (some t316)) else (some false)))) else (some false)))) else (some false)))) else (some false)))) else (some false))) = some r := H
 have A6 := Aside0.mk A60
 clear A60
 replace H := Option.bind_eq_some_iff.mp H
 obtain ⟨t293, A70, H⟩ := H
 replace H : (if (t292 == t293) = true then ((script_Bare.f t281 t282 t283 t284 t285 t286 t287 t288).bind fun bt294 => ((rivuletref23_Bare.f t281 t282 t283 t284 t285 t286 t287 t288).bind fun bt302 => (if (bt294.1 == bt302.1 && (bt294.2.1 == bt302.2.1 && (bt294.2.2.1 == bt302.2.2.1 && (bt294.2.2.2.1 == bt302.2.2.2.1 && (bt294.2.2.2.2.1.toList == bt302.2.2.2.2.1.toList && (bt294.2.2.2.2.2.1.toList == bt302.2.2.2.2.2.1.toList && (bt294.2.2.2.2.2.2.1 == bt302.2.2.2.2.2.2.1 && (bt294.2.2.2.2.2.2.2 == bt302.2.2.2.2.2.2.2)))))))) = true then ((script_Put.f t281 t282 t283 t284 t285 t286 t287 t288).bind fun t310 => ((rivuletref23_Put.f t281 t282 t283 t284 t285 t286 t287 t288).bind fun t311 => (if t310.toList = t311.toList then ((script_Name.f a1).bind fun t312 => ((rivuletref23_Name.f a1).bind fun t313 => (if t312.toList = t313.toList then ((script_Show.fT t289).bind fun t314 => ((rivuletref23_Show.f k t289).bind fun t315 => (if t314.toList = t315.toList then ((rivuletlaw23_fixed.f k).bind fun t316 => (some t316)) else (some false)))) else (some false)))) else (some false)))) else (some false)))) else (some false)) = some r := H
 have A7 := Aside0.mk A70
 clear A70
 by_cases c8 : (t292 == t293) = true
 ·rw [if_pos c8] at H
  have c8b0 : (t292 == t293) = true := c8
  (try (have c8b1 : decide (t292 = t293) = true := by simpa using c8))
  (try (have c8b2 : (t292 == t293) = true := by simpa using c8))
  clear c8
  replace H := Option.bind_eq_some_iff.mp H
  obtain ⟨⟨t294, t295, t296, t297, t298, t299, t300, t301⟩, A90, H⟩ := H
  replace H : ((rivuletref23_Bare.f t281 t282 t283 t284 t285 t286 t287 t288).bind fun bt302 => (if (t294 == bt302.1 && (t295 == bt302.2.1 && (t296 == bt302.2.2.1 && (t297 == bt302.2.2.2.1 && (t298.toList == bt302.2.2.2.2.1.toList && (t299.toList == bt302.2.2.2.2.2.1.toList && (t300 == bt302.2.2.2.2.2.2.1 && (t301 == bt302.2.2.2.2.2.2.2)))))))) = true then ((script_Put.f t281 t282 t283 t284 t285 t286 t287 t288).bind fun t310 => ((rivuletref23_Put.f t281 t282 t283 t284 t285 t286 t287 t288).bind fun t311 => (if t310.toList = t311.toList then ((script_Name.f a1).bind fun t312 => ((rivuletref23_Name.f a1).bind fun t313 => (if t312.toList = t313.toList then ((script_Show.fT t289).bind fun t314 => ((rivuletref23_Show.f k t289).bind fun t315 => (if t314.toList = t315.toList then ((rivuletlaw23_fixed.f k).bind fun t316 => (some t316)) else (some false)))) else (some false)))) else (some false)))) else (some false))) = some r := H
  have A9 := Aside0.mk A90
  clear A90
  replace H := Option.bind_eq_some_iff.mp H
  obtain ⟨⟨t302, t303, t304, t305, t306, t307, t308, t309⟩, A100, H⟩ := H
  replace H : (if (t294 == t302 && (t295 == t303 && (t296 == t304 && (t297 == t305 && (t298.toList == t306.toList && (t299.toList == t307.toList && (t300 == t308 && (t301 == t309)))))))) = true then ((script_Put.f t281 t282 t283 t284 t285 t286 t287 t288).bind fun t310 => ((rivuletref23_Put.f t281 t282 t283 t284 t285 t286 t287 t288).bind fun t311 => (if t310.toList = t311.toList then ((script_Name.f a1).bind fun t312 => ((rivuletref23_Name.f a1).bind fun t313 => (if t312.toList = t313.toList then ((script_Show.fT t289).bind fun t314 => ((rivuletref23_Show.f k t289).bind fun t315 => (if t314.toList = t315.toList then ((rivuletlaw23_fixed.f k).bind fun t316 => (some t316)) else (some false)))) else (some false)))) else (some false)))) else (some false)) = some r := H
  have A10 := Aside0.mk A100
  clear A100
  by_cases c11 : (t294 == t302 && (t295 == t303 && (t296 == t304 && (t297 == t305 && (t298.toList == t306.toList && (t299.toList == t307.toList && (t300 == t308 && (t301 == t309)))))))) = true
  ·rw [if_pos c11] at H
   have c11b0 : (t294 == t302 && (t295 == t303 && (t296 == t304 && (t297 == t305 && (t298.toList == t306.toList && (t299.toList == t307.toList && (t300 == t308 && (t301 == t309)))))))) = true := c11
   (try (have c11b1 : decide (t294 = t302 && (t295 == t303 && (t296 == t304 && (t297 == t305 && (t298.toList == t306.toList && (t299.toList == t307.toList && (t300 == t308 && (t301 == t309)))))))) = true := by simpa using c11))
   (try (have c11b2 : (t294 == t302 && (t295 == t303 && (t296 == t304 && (t297 == t305 && (t298.toList == t306.toList && (t299.toList == t307.toList && (t300 == t308 && (t301 == t309)))))))) = true := by simpa using c11))
   clear c11
   replace H := Option.bind_eq_some_iff.mp H
   obtain ⟨t310, A120, H⟩ := H
   replace H : ((rivuletref23_Put.f t281 t282 t283 t284 t285 t286 t287 t288).bind fun t311 => (if t310.toList = t311.toList then ((script_Name.f a1).bind fun t312 => ((rivuletref23_Name.f a1).bind fun t313 => (if t312.toList = t313.toList then ((script_Show.fT t289).bind fun t314 => ((rivuletref23_Show.f k t289).bind fun t315 => (if t314.toList = t315.toList then ((rivuletlaw23_fixed.f k).bind fun t316 => (some t316)) else (some false)))) else (some false)))) else (some false))) = some r := H
   have A12 := Aside0.mk A120
   clear A120
   replace H := Option.bind_eq_some_iff.mp H
   obtain ⟨t311, A130, H⟩ := H
   replace H : (if t310.toList = t311.toList then ((script_Name.f a1).bind fun t312 => ((rivuletref23_Name.f a1).bind fun t313 => (if t312.toList = t313.toList then ((script_Show.fT t289).bind fun t314 => ((rivuletref23_Show.f k t289).bind fun t315 => (if t314.toList = t315.toList then ((rivuletlaw23_fixed.f k).bind fun t316 => (some t316)) else (some false)))) else (some false)))) else (some false)) = some r := H
   have A13 := Aside0.mk A130
   clear A130
   by_cases c14 : t310.toList = t311.toList
   ·rw [if_pos c14] at H
    have c14b0 : (t310.toList == t311.toList) = true := beq_iff_eq.mpr c14
    have c14b1 : (t310.toList != t311.toList) = false := bne_eq_false_iff_eq.mpr c14
    clear c14
    replace H := Option.bind_eq_some_iff.mp H
    obtain ⟨t312, A150, H⟩ := H
    replace H : ((rivuletref23_Name.f a1).bind fun t313 => (if t312.toList = t313.toList then ((script_Show.fT t289).bind fun t314 => ((rivuletref23_Show.f k t289).bind fun t315 => (if t314.toList = t315.toList then ((rivuletlaw23_fixed.f k).bind fun t316 => (some t316)) else (some false)))) else (some false))) = some r := H
    have A15 := Aside0.mk A150
    clear A150
    replace H := Option.bind_eq_some_iff.mp H
    obtain ⟨t313, A160, H⟩ := H
    replace H : (if t312.toList = t313.toList then ((script_Show.fT t289).bind fun t314 => ((rivuletref23_Show.f k t289).bind fun t315 => (if t314.toList = t315.toList then ((rivuletlaw23_fixed.f k).bind fun t316 => (some t316)) else (some false)))) else (some false)) = some r := H
    have A16 := Aside0.mk A160
    clear A160
    by_cases c17 : t312.toList = t313.toList
    ·rw [if_pos c17] at H
     have c17b0 : (t312.toList == t313.toList) = true := beq_iff_eq.mpr c17
     have c17b1 : (t312.toList != t313.toList) = false := bne_eq_false_iff_eq.mpr c17
     clear c17
     replace H := Option.bind_eq_some_iff.mp H
     obtain ⟨t314, A180, H⟩ := H
     replace H : ((rivuletref23_Show.f k t289).bind fun t315 => (if t314.toList = t315.toList then ((rivuletlaw23_fixed.f k).bind fun t316 => (some t316)) else (some false))) = some r := H
     have A18 := Aside0.mk A180
     clear A180
     replace H := Option.bind_eq_some_iff.mp H
     obtain ⟨t315, A190, H⟩ := H
     replace H : (if t314.toList = t315.toList then ((rivuletlaw23_fixed.f k).bind fun t316 => (some t316)) else (some false)) = some r := H
     have A19 := Aside0.mk A190
     clear A190
     by_cases c20 : t314.toList = t315.toList
     ·rw [if_pos c20] at H
      have c20b0 : (t314.toList == t315.toList) = true := beq_iff_eq.mpr c20
      have c20b1 : (t314.toList != t315.toList) = false := bne_eq_false_iff_eq.mpr c20
      clear c20
      replace H := Option.bind_eq_some_iff.mp H
      obtain ⟨t316, A210, H⟩ := H
      replace H : (some t316) = some r := H
      have A21 := Aside0.mk A210
      clear A210
      obtain rfl := Option.some.inj H
      go_enter Tryd.func3, Tryd.ntmps3
      try go_wp2_with (first | ((with_reducible refine gate_dst (N := 3) rfl ?_); refine box_event ?hg (N := 3) ?hd (cs := #[.int .i64 a0_0, .int .i64 a0_1, .int .i64 a0_2, .int .i64 a0_3, .string a0_4, .string a0_5, .bool a0_6, .int .i64 a0_7]) (t := 23) ?hr ?_; (case hd => rfl); (case hg => rfl); (case hr => first | (go_simp; done) | (go_simp; rfl)); intro gb280 hg w22 hbox hb; have n0_ := Aside0.mk (below_step (by repeat (first | (with_reducible first | exact HB.out | apply below_alloc | apply pw_below_drewN | apply below_drew1) | exact HB.out)) hb); have n1_ := Aside0.mk (hbox); have n2_ := Aside0.mk ((by rw [hg]; exact (below_size (by repeat (first | (with_reducible first | exact HB.out | apply below_alloc | apply pw_below_drewN | apply below_drew1) | exact HB.out))) : w.heap.size ≤ gb280)); have n3_ := Aside0.mk ((by rw [hg]; exact (below_size (by repeat (first | (with_reducible first | exact HB.out | apply below_alloc | apply pw_below_drewN | apply below_drew1) | exact HB.out))) : w.heap.size ≤ gb280)); clear HB; have HB := n0_; have BK280 := n1_; have GW280 := n2_; have GE280 := n3_; clear n0_ n1_ n2_ n3_; clear hb hbox hg; have hcz23_0 : w22.cell? ⟨gb280, 0, none⟩ = some (.int .i64 a0_0) := (blk_cell BK280.out 0).trans rfl; have hcz23_1 : w22.cell? ⟨gb280, 1, none⟩ = some (.int .i64 a0_1) := (blk_cell BK280.out 1).trans rfl; have hcz23_2 : w22.cell? ⟨gb280, 2, none⟩ = some (.int .i64 a0_2) := (blk_cell BK280.out 2).trans rfl; have hcz23_3 : w22.cell? ⟨gb280, 3, none⟩ = some (.int .i64 a0_3) := (blk_cell BK280.out 3).trans rfl; have hcz23_4 : w22.cell? ⟨gb280, 4, none⟩ = some (.string a0_4) := (blk_cell BK280.out 4).trans rfl; have hcz23_5 : w22.cell? ⟨gb280, 5, none⟩ = some (.string a0_5) := (blk_cell BK280.out 5).trans rfl; have hcz23_6 : w22.cell? ⟨gb280, 6, none⟩ = some (.bool a0_6) := (blk_cell BK280.out 6).trans rfl; have hcz23_7 : w22.cell? ⟨gb280, 7, none⟩ = some (.int .i64 a0_7) := (blk_cell BK280.out 7).trans rfl; have hfz23_0 := blk_frozen BK280.out 0; have hfz23_1 := blk_frozen BK280.out 1; have hfz23_2 := blk_frozen BK280.out 2; have hfz23_3 := blk_frozen BK280.out 3; have hfz23_4 := blk_frozen BK280.out 4; have hfz23_5 := blk_frozen BK280.out 5; have hfz23_6 := blk_frozen BK280.out 6; have hfz23_7 := blk_frozen BK280.out 7) | ((with_reducible refine gate_callee (f := 9) rfl ?_); refine goesL_ (some 8) rfl rfl Tryd.func9 (by kernel_rfl) rfl #[.agg #[.int .i64 a0_0, .int .i64 a0_1, .int .i64 a0_2, .int .i64 a0_3, .string a0_4, .string a0_5, .bool a0_6, .int .i64 a0_7]] rfl (by (try simp only [List.map_toArray, List.map_cons, List.map_nil]); first | done | rfl | (simp only [List.length_drop, List.length_take]; rfl)) ?_; (with_reducible refine (rivuletlaw23_cut.calls a0_0 a0_1 a0_2 a0_3 a0_4 a0_5 a0_6 a0_7 t281 t282 t283 t284 t285 t286 t287 t288 _ A4.out).mono ?_); rintro e w24 ⟨rfl, hb⟩; refine ⟨_, rfl, ?_⟩; have n0_ := Aside0.mk (blk_below (g := gb280) (o := .cells #[.int .i64 a0_0, .int .i64 a0_1, .int .i64 a0_2, .int .i64 a0_3, .string a0_4, .string a0_5, .bool a0_6, .int .i64 a0_7] 23 (0, 0)) (by (with_reducible repeat (first | refine blk_drewN ?_ _ | refine blk_drew ?_ | refine blk_alloc ?_ _)); exact BK280.out) hb); have n1_ := Aside0.mk (below_step (by repeat (first | (with_reducible first | exact HB.out | apply below_alloc | apply pw_below_drewN | apply below_drew1 | refine below_set ?_ GE280.out) | exact HB.out)) hb); clear BK280; clear HB; have BK280 := n0_; have HB := n1_; clear n0_ n1_; (try clear hb); (try clear hb2); (try clear hk); (try clear hi); have hcz25_0 : w24.cell? ⟨gb280, 0, none⟩ = some (.int .i64 a0_0) := (blk_cell BK280.out 0).trans rfl; have hcz25_1 : w24.cell? ⟨gb280, 1, none⟩ = some (.int .i64 a0_1) := (blk_cell BK280.out 1).trans rfl; have hcz25_2 : w24.cell? ⟨gb280, 2, none⟩ = some (.int .i64 a0_2) := (blk_cell BK280.out 2).trans rfl; have hcz25_3 : w24.cell? ⟨gb280, 3, none⟩ = some (.int .i64 a0_3) := (blk_cell BK280.out 3).trans rfl; have hcz25_4 : w24.cell? ⟨gb280, 4, none⟩ = some (.string a0_4) := (blk_cell BK280.out 4).trans rfl; have hcz25_5 : w24.cell? ⟨gb280, 5, none⟩ = some (.string a0_5) := (blk_cell BK280.out 5).trans rfl; have hcz25_6 : w24.cell? ⟨gb280, 6, none⟩ = some (.bool a0_6) := (blk_cell BK280.out 6).trans rfl; have hcz25_7 : w24.cell? ⟨gb280, 7, none⟩ = some (.int .i64 a0_7) := (blk_cell BK280.out 7).trans rfl; have hfz25_0 := blk_frozen BK280.out 0; have hfz25_1 := blk_frozen BK280.out 1; have hfz25_2 := blk_frozen BK280.out 2; have hfz25_3 := blk_frozen BK280.out 3; have hfz25_4 := blk_frozen BK280.out 4; have hfz25_5 := blk_frozen BK280.out 5; have hfz25_6 := blk_frozen BK280.out 6; have hfz25_7 := blk_frozen BK280.out 7) | ((with_reducible refine gate_callee (f := 10) rfl ?_); refine goesL_ (some 10) rfl rfl Tryd.func10 (by kernel_rfl) rfl #[.slice A2 l2.length c2] rfl (by (try simp only [List.map_toArray, List.map_cons, List.map_nil]); first | done | rfl | (simp only [List.length_drop, List.length_take]; rfl)) ?_; (with_reducible refine (rivuletlaw23_Cut.calls k _ _ l2 t289 _ ?side1 ?side2 A5.out).mono ?_); (case side1 => exact Kd.C_below HR2.out (by repeat (first | (with_reducible first | exact HB.out | apply below_alloc | apply pw_below_drewN | apply below_drew1 | refine below_set ?_ GE280.out) | exact HB.out))); (case side2 => exact HC2.out); rintro e w26 ⟨v290, rfl, ho0, hb⟩; refine ⟨_, rfl, ?_⟩; have n0_ := Aside0.mk (Kd.R_lower (Kd.R_newB ho0 (g := gb280) (o := .cells #[.int .i64 t281, .int .i64 t282, .int .i64 t283, .int .i64 t284, .string t285, .string t286, .bool t287, .int .i64 t288] 23 (0, 0)) (by (with_reducible repeat (first | refine blk_drewN ?_ _ | refine blk_drew ?_ | refine blk_alloc ?_ _)); refine blk_put (cs := #[.int .i64 t281, .int .i64 t282, .int .i64 t283, .int .i64 t284, .string t285, .string t286, .bool t287, .int .i64 a0_7]) ?_ 7 _ rfl; (with_reducible repeat (first | refine blk_drewN ?_ _ | refine blk_drew ?_ | refine blk_alloc ?_ _)); refine blk_put (cs := #[.int .i64 t281, .int .i64 t282, .int .i64 t283, .int .i64 t284, .string t285, .string t286, .bool a0_6, .int .i64 a0_7]) ?_ 6 _ rfl; (with_reducible repeat (first | refine blk_drewN ?_ _ | refine blk_drew ?_ | refine blk_alloc ?_ _)); refine blk_put (cs := #[.int .i64 t281, .int .i64 t282, .int .i64 t283, .int .i64 t284, .string t285, .string a0_5, .bool a0_6, .int .i64 a0_7]) ?_ 5 _ rfl; (with_reducible repeat (first | refine blk_drewN ?_ _ | refine blk_drew ?_ | refine blk_alloc ?_ _)); refine blk_put (cs := #[.int .i64 t281, .int .i64 t282, .int .i64 t283, .int .i64 t284, .string a0_4, .string a0_5, .bool a0_6, .int .i64 a0_7]) ?_ 4 _ rfl; (with_reducible repeat (first | refine blk_drewN ?_ _ | refine blk_drew ?_ | refine blk_alloc ?_ _)); refine blk_put (cs := #[.int .i64 t281, .int .i64 t282, .int .i64 t283, .int .i64 a0_3, .string a0_4, .string a0_5, .bool a0_6, .int .i64 a0_7]) ?_ 3 _ rfl; (with_reducible repeat (first | refine blk_drewN ?_ _ | refine blk_drew ?_ | refine blk_alloc ?_ _)); refine blk_put (cs := #[.int .i64 t281, .int .i64 t282, .int .i64 a0_2, .int .i64 a0_3, .string a0_4, .string a0_5, .bool a0_6, .int .i64 a0_7]) ?_ 2 _ rfl; (with_reducible repeat (first | refine blk_drewN ?_ _ | refine blk_drew ?_ | refine blk_alloc ?_ _)); refine blk_put (cs := #[.int .i64 t281, .int .i64 a0_1, .int .i64 a0_2, .int .i64 a0_3, .string a0_4, .string a0_5, .bool a0_6, .int .i64 a0_7]) ?_ 1 _ rfl; (with_reducible repeat (first | refine blk_drewN ?_ _ | refine blk_drew ?_ | refine blk_alloc ?_ _)); refine blk_put (cs := #[.int .i64 a0_0, .int .i64 a0_1, .int .i64 a0_2, .int .i64 a0_3, .string a0_4, .string a0_5, .bool a0_6, .int .i64 a0_7]) ?_ 0 _ rfl; (with_reducible repeat (first | refine blk_drewN ?_ _ | refine blk_drew ?_ | refine blk_alloc ?_ _)); exact BK280.out)) (below_size (by repeat (first | (with_reducible first | exact HB.out | apply below_alloc | apply pw_below_drewN | apply below_drew1 | refine below_set ?_ GE280.out) | exact HB.out)))); have n1_ := Aside0.mk (blk_below (g := gb280) (o := .cells #[.int .i64 t281, .int .i64 t282, .int .i64 t283, .int .i64 t284, .string t285, .string t286, .bool t287, .int .i64 t288] 23 (0, 0)) (by (with_reducible repeat (first | refine blk_drewN ?_ _ | refine blk_drew ?_ | refine blk_alloc ?_ _)); refine blk_put (cs := #[.int .i64 t281, .int .i64 t282, .int .i64 t283, .int .i64 t284, .string t285, .string t286, .bool t287, .int .i64 a0_7]) ?_ 7 _ rfl; (with_reducible repeat (first | refine blk_drewN ?_ _ | refine blk_drew ?_ | refine blk_alloc ?_ _)); refine blk_put (cs := #[.int .i64 t281, .int .i64 t282, .int .i64 t283, .int .i64 t284, .string t285, .string t286, .bool a0_6, .int .i64 a0_7]) ?_ 6 _ rfl; (with_reducible repeat (first | refine blk_drewN ?_ _ | refine blk_drew ?_ | refine blk_alloc ?_ _)); refine blk_put (cs := #[.int .i64 t281, .int .i64 t282, .int .i64 t283, .int .i64 t284, .string t285, .string a0_5, .bool a0_6, .int .i64 a0_7]) ?_ 5 _ rfl; (with_reducible repeat (first | refine blk_drewN ?_ _ | refine blk_drew ?_ | refine blk_alloc ?_ _)); refine blk_put (cs := #[.int .i64 t281, .int .i64 t282, .int .i64 t283, .int .i64 t284, .string a0_4, .string a0_5, .bool a0_6, .int .i64 a0_7]) ?_ 4 _ rfl; (with_reducible repeat (first | refine blk_drewN ?_ _ | refine blk_drew ?_ | refine blk_alloc ?_ _)); refine blk_put (cs := #[.int .i64 t281, .int .i64 t282, .int .i64 t283, .int .i64 a0_3, .string a0_4, .string a0_5, .bool a0_6, .int .i64 a0_7]) ?_ 3 _ rfl; (with_reducible repeat (first | refine blk_drewN ?_ _ | refine blk_drew ?_ | refine blk_alloc ?_ _)); refine blk_put (cs := #[.int .i64 t281, .int .i64 t282, .int .i64 a0_2, .int .i64 a0_3, .string a0_4, .string a0_5, .bool a0_6, .int .i64 a0_7]) ?_ 2 _ rfl; (with_reducible repeat (first | refine blk_drewN ?_ _ | refine blk_drew ?_ | refine blk_alloc ?_ _)); refine blk_put (cs := #[.int .i64 t281, .int .i64 a0_1, .int .i64 a0_2, .int .i64 a0_3, .string a0_4, .string a0_5, .bool a0_6, .int .i64 a0_7]) ?_ 1 _ rfl; (with_reducible repeat (first | refine blk_drewN ?_ _ | refine blk_drew ?_ | refine blk_alloc ?_ _)); refine blk_put (cs := #[.int .i64 a0_0, .int .i64 a0_1, .int .i64 a0_2, .int .i64 a0_3, .string a0_4, .string a0_5, .bool a0_6, .int .i64 a0_7]) ?_ 0 _ rfl; (with_reducible repeat (first | refine blk_drewN ?_ _ | refine blk_drew ?_ | refine blk_alloc ?_ _)); exact BK280.out) hb); have n2_ := Aside0.mk (below_step (by repeat (first | (with_reducible first | exact HB.out | apply below_alloc | apply pw_below_drewN | apply below_drew1 | refine below_set ?_ GE280.out) | exact HB.out)) hb); clear BK280; clear HB; have HO291 := n0_; have BK280 := n1_; have HB := n2_; clear n0_ n1_ n2_; (try clear hb); (try clear hb2); (try clear hk); (try clear hi); (try clear ho0)))
      have n0_ := Aside0.mk (Kd.R_drew HO291.out)
      have n1_ := Aside0.mk (blk_drew BK280.out)
      have n2_ := Aside0.mk (below_drew1 HB.out)
      clear HO291
      clear BK280
      clear HB
      have HO291 := n0_
      have BK280 := n1_
      have HB := n2_
      clear n0_ n1_ n2_
      refine start_ (n := 37) (S := fun w' => w'.cell? ⟨gb280, 0, none⟩ = some (.int .i64 t281) ∧ w'.cell? ⟨gb280, 1, none⟩ = some (.int .i64 t282) ∧ w'.cell? ⟨gb280, 2, none⟩ = some (.int .i64 t283) ∧ w'.cell? ⟨gb280, 3, none⟩ = some (.int .i64 t284) ∧ w'.cell? ⟨gb280, 4, none⟩ = some (.string t285) ∧ w'.cell? ⟨gb280, 5, none⟩ = some (.string t286) ∧ w'.cell? ⟨gb280, 6, none⟩ = some (.bool t287) ∧ w'.cell? ⟨gb280, 7, none⟩ = some (.int .i64 t288)) (ds := []) (List.toArray (List.replicate 37 false)) (by kernel_rfl) rfl rfl ⟨(blk_cell BK280.out 0).trans rfl, (blk_cell BK280.out 1).trans rfl, (blk_cell BK280.out 2).trans rfl, (blk_cell BK280.out 3).trans rfl, (blk_cell BK280.out 4).trans rfl, (blk_cell BK280.out 5).trans rfl, (blk_cell BK280.out 6).trans rfl, (blk_cell BK280.out 7).trans rfl⟩ (fun hHeld => ?_); refine with_tabW rivuletlaw23_ScriptPuts.tab3 rivuletlaw23_ScriptPuts.bits3 (fun HT_ HW_ => ?_)
      generalize w26.drew = w27 at HO291 BK280 HB hHeld ⊢
      refine take_ (i := 0) (N := some 11) (v := ?_) (a' := ?_) (List.toArray ([true] ++ List.replicate 36 false)) rfl rfl (take_ofW HT_.out HW_.out (by kernel_rfl)) (fun _ _ _ h => h) (Or.inl ⟨by rfl, ?_⟩) hHeld ?_ ?_
      rotate_left
      ·rintro w' ⟨s0, s1, s2, s3, s4, s5, s6, s7⟩
       go_simp
       with_reducible rfl
      rotate_left
      ·simp only [Act.put, List.setIfInBounds_toArray, List.set_cons_zero, List.set_cons_succ, i64_w, i32_w]
       rfl
      refine take_ (i := 2) (N := some 13) (v := ?_) (a' := ?_) (List.toArray ([true, false, true] ++ List.replicate 34 false)) rfl rfl (take_ofW HT_.out HW_.out (by kernel_rfl)) (fun _ _ _ h => h) (Or.inl ⟨by rfl, ?_⟩) hHeld ?_ ?_
      rotate_left
      ·rintro w' ⟨s0, s1, s2, s3, s4, s5, s6, s7⟩
       go_simp
       with_reducible rfl
      rotate_left
      ·simp only [Act.put, List.setIfInBounds_toArray, List.set_cons_zero, List.set_cons_succ, i64_w, i32_w]
       rfl
      refine one_ (i := 1) (N := some 12) (List.toArray ([true, true, true] ++ List.replicate 34 false)) rfl rfl (one_of HT_.out (by kernel_rfl)) (by decide) (fun K hK => ?_)
      refine goes_ Tryd.func11 (by kernel_rfl) rfl #[.agg #[.int .i64 t281, .int .i64 t282, .int .i64 t283, .int .i64 t284, .string t285, .string t286, .bool t287, .int .i64 t288]] (by rfl) rfl rfl (by (try simp only [List.map_toArray, List.map_cons, List.map_nil]); first | done | rfl | (simp only [List.length_drop, List.length_take]; rfl)) ?_
      with_reducible refine (script_Right.calls t281 t282 t283 t284 t285 t286 t287 t288 t292 _ A6.out).mono ?_
      rintro e w28 ⟨rfl, hb⟩
      refine ⟨_, rfl, ?_⟩
      have n0_ := Aside0.mk (Kd.R_below (by (with_reducible repeat (first | apply Kd.R_alloc | apply Kd.R_drewN | apply Kd.R_drew)); exact HO291.out) hb)
      have n1_ := Aside0.mk (blk_below (g := gb280) (o := .cells #[.int .i64 t281, .int .i64 t282, .int .i64 t283, .int .i64 t284, .string t285, .string t286, .bool t287, .int .i64 t288] 23 (0, 0)) (by (with_reducible repeat (first | refine blk_drewN ?_ _ | refine blk_drew ?_ | refine blk_alloc ?_ _)); exact BK280.out) hb)
      have n2_ := Aside0.mk (below_step (by repeat (first | (with_reducible first | exact HB.out | apply below_alloc | apply pw_below_drewN | apply below_drew1 | refine below_set ?_ GE280.out) | exact HB.out)) hb)
      clear HO291
      clear BK280
      clear HB
      have HO291 := n0_
      have BK280 := n1_
      have HB := n2_
      clear n0_ n1_ n2_
      (try clear hb)
      (try clear hb2)
      (try clear hk)
      (try clear hi)
      refine hK.out _ _ ⟨(blk_cell BK280.out 0).trans rfl, (blk_cell BK280.out 1).trans rfl, (blk_cell BK280.out 2).trans rfl, (blk_cell BK280.out 3).trans rfl, (blk_cell BK280.out 4).trans rfl, (blk_cell BK280.out 5).trans rfl, (blk_cell BK280.out 6).trans rfl, (blk_cell BK280.out 7).trans rfl⟩ (fun hHeld => ?_)
      clear hK K
      refine norm_ (a' := ?_) ?_ ?_
      rotate_left
      ·show Act.put _ (some 12) _ = _
       simp only [Act.put, List.setIfInBounds_toArray, List.set_cons_zero, List.set_cons_succ, i64_w, i32_w]
       rfl
      refine one_ (i := 3) (N := some 14) (List.toArray ([true, true, true, true] ++ List.replicate 33 false)) rfl rfl (one_of HT_.out (by kernel_rfl)) (by decide) (fun K hK => ?_)
      refine goes_ Tryd.func12 (by kernel_rfl) rfl #[.agg #[.int .i64 t281, .int .i64 t282, .int .i64 t283, .int .i64 t284, .string t285, .string t286, .bool t287, .int .i64 t288]] (by rfl) rfl rfl (by (try simp only [List.map_toArray, List.map_cons, List.map_nil]); first | done | rfl | (simp only [List.length_drop, List.length_take]; rfl)) ?_
      with_reducible refine (rivuletref23_Right.calls t281 t282 t283 t284 t285 t286 t287 t288 t293 _ A7.out).mono ?_
      rintro e w29 ⟨rfl, hb⟩
      refine ⟨_, rfl, ?_⟩
      have n0_ := Aside0.mk (Kd.R_below (by (with_reducible repeat (first | apply Kd.R_alloc | apply Kd.R_drewN | apply Kd.R_drew)); exact HO291.out) hb)
      have n1_ := Aside0.mk (blk_below (g := gb280) (o := .cells #[.int .i64 t281, .int .i64 t282, .int .i64 t283, .int .i64 t284, .string t285, .string t286, .bool t287, .int .i64 t288] 23 (0, 0)) (by (with_reducible repeat (first | refine blk_drewN ?_ _ | refine blk_drew ?_ | refine blk_alloc ?_ _)); exact BK280.out) hb)
      have n2_ := Aside0.mk (below_step (by repeat (first | (with_reducible first | exact HB.out | apply below_alloc | apply pw_below_drewN | apply below_drew1 | refine below_set ?_ GE280.out) | exact HB.out)) hb)
      clear HO291
      clear BK280
      clear HB
      have HO291 := n0_
      have BK280 := n1_
      have HB := n2_
      clear n0_ n1_ n2_
      (try clear hb)
      (try clear hb2)
      (try clear hk)
      (try clear hi)
      refine hK.out _ _ ⟨(blk_cell BK280.out 0).trans rfl, (blk_cell BK280.out 1).trans rfl, (blk_cell BK280.out 2).trans rfl, (blk_cell BK280.out 3).trans rfl, (blk_cell BK280.out 4).trans rfl, (blk_cell BK280.out 5).trans rfl, (blk_cell BK280.out 6).trans rfl, (blk_cell BK280.out 7).trans rfl⟩ (fun hHeld => ?_)
      clear hK K
      refine norm_ (a' := ?_) ?_ ?_
      rotate_left
      ·show Act.put _ (some 14) _ = _
       simp only [Act.put, List.setIfInBounds_toArray, List.set_cons_zero, List.set_cons_succ, i64_w, i32_w]
       rfl
      refine pure_ (i := 4) (N := some 15) (v := ?_) (a' := ?_) (List.toArray ([true, true, true, true, true] ++ List.replicate 32 false)) rfl rfl (any_of HT_.out (by kernel_rfl)) (fun _ _ _ h => h) (Or.inl ⟨by rfl, ?_⟩) ?_ ?_
      rotate_left
      ·intro w'
       go_simp
       with_reducible rfl
      rotate_left
      ·simp only [Act.put, List.setIfInBounds_toArray, List.set_cons_zero, List.set_cons_succ, i64_w, i32_w]
       rfl
      refine pure_ (i := 5) (N := some 16) (v := ?_) (a' := ?_) (List.toArray ([true, true, true, true, true, true] ++ List.replicate 31 false)) rfl rfl (any_of HT_.out (by kernel_rfl)) (fun _ _ _ h => h) (Or.inl ⟨by rfl, ?_⟩) ?_ ?_
      rotate_left
      ·intro w'
       go_simp
       with_reducible rfl
      rotate_left
      ·simp only [Act.put, List.setIfInBounds_toArray, List.set_cons_zero, List.set_cons_succ, i64_w, i32_w]
       rfl
      refine take_ (i := 6) (N := some 17) (v := ?_) (a' := ?_) (List.toArray ([true, true, true, true, true, true, true] ++ List.replicate 30 false)) rfl rfl (take_ofW HT_.out HW_.out (by kernel_rfl)) (fun _ _ _ h => h) (Or.inl ⟨by rfl, ?_⟩) hHeld ?_ ?_
      rotate_left
      ·rintro w' ⟨s0, s1, s2, s3, s4, s5, s6, s7⟩
       go_simp
       with_reducible rfl
      rotate_left
      ·simp only [Act.put, List.setIfInBounds_toArray, List.set_cons_zero, List.set_cons_succ, i64_w, i32_w]
       rfl
      refine take_ (i := 8) (N := some 19) (v := ?_) (a' := ?_) (List.toArray ([true, true, true, true, true, true, true, false, true] ++ List.replicate 28 false)) rfl rfl (take_ofW HT_.out HW_.out (by kernel_rfl)) (fun _ _ _ h => h) (Or.inl ⟨by rfl, ?_⟩) hHeld ?_ ?_
      rotate_left
      ·rintro w' ⟨s0, s1, s2, s3, s4, s5, s6, s7⟩
       go_simp
       with_reducible rfl
      rotate_left
      ·simp only [Act.put, List.setIfInBounds_toArray, List.set_cons_zero, List.set_cons_succ, i64_w, i32_w]
       rfl
      refine one_ (i := 7) (N := some 18) (List.toArray ([true, true, true, true, true, true, true, true, true] ++ List.replicate 28 false)) rfl rfl (one_of HT_.out (by kernel_rfl)) (by decide) (fun K hK => ?_)
      refine goes_ Tryd.func13 (by kernel_rfl) rfl #[.agg #[.int .i64 t281, .int .i64 t282, .int .i64 t283, .int .i64 t284, .string t285, .string t286, .bool t287, .int .i64 t288]] (by rfl) rfl rfl (by (try simp only [List.map_toArray, List.map_cons, List.map_nil]); first | done | rfl | (simp only [List.length_drop, List.length_take]; rfl)) ?_
      with_reducible refine (script_Bare.calls t281 t282 t283 t284 t285 t286 t287 t288 t294 t295 t296 t297 t298 t299 t300 t301 _ A9.out).mono ?_
      rintro e w30 ⟨rfl, hb⟩
      refine ⟨_, rfl, ?_⟩
      have n0_ := Aside0.mk (Kd.R_below (by (with_reducible repeat (first | apply Kd.R_alloc | apply Kd.R_drewN | apply Kd.R_drew)); exact HO291.out) hb)
      have n1_ := Aside0.mk (blk_below (g := gb280) (o := .cells #[.int .i64 t281, .int .i64 t282, .int .i64 t283, .int .i64 t284, .string t285, .string t286, .bool t287, .int .i64 t288] 23 (0, 0)) (by (with_reducible repeat (first | refine blk_drewN ?_ _ | refine blk_drew ?_ | refine blk_alloc ?_ _)); exact BK280.out) hb)
      have n2_ := Aside0.mk (below_step (by repeat (first | (with_reducible first | exact HB.out | apply below_alloc | apply pw_below_drewN | apply below_drew1 | refine below_set ?_ GE280.out) | exact HB.out)) hb)
      clear HO291
      clear BK280
      clear HB
      have HO291 := n0_
      have BK280 := n1_
      have HB := n2_
      clear n0_ n1_ n2_
      (try clear hb)
      (try clear hb2)
      (try clear hk)
      (try clear hi)
      refine hK.out _ _ ⟨(blk_cell BK280.out 0).trans rfl, (blk_cell BK280.out 1).trans rfl, (blk_cell BK280.out 2).trans rfl, (blk_cell BK280.out 3).trans rfl, (blk_cell BK280.out 4).trans rfl, (blk_cell BK280.out 5).trans rfl, (blk_cell BK280.out 6).trans rfl, (blk_cell BK280.out 7).trans rfl⟩ (fun hHeld => ?_)
      clear hK K
      refine norm_ (a' := ?_) ?_ ?_
      rotate_left
      ·show Act.put _ (some 18) _ = _
       simp only [Act.put, List.setIfInBounds_toArray, List.set_cons_zero, List.set_cons_succ, i64_w, i32_w]
       rfl
      refine one_ (i := 9) (N := some 20) (List.toArray (List.replicate 10 true ++ List.replicate 27 false)) rfl rfl (one_of HT_.out (by kernel_rfl)) (by decide) (fun K hK => ?_)
      refine goes_ Tryd.func14 (by kernel_rfl) rfl #[.agg #[.int .i64 t281, .int .i64 t282, .int .i64 t283, .int .i64 t284, .string t285, .string t286, .bool t287, .int .i64 t288]] (by rfl) rfl rfl (by (try simp only [List.map_toArray, List.map_cons, List.map_nil]); first | done | rfl | (simp only [List.length_drop, List.length_take]; rfl)) ?_
      with_reducible refine (rivuletref23_Bare.calls t281 t282 t283 t284 t285 t286 t287 t288 t302 t303 t304 t305 t306 t307 t308 t309 _ A10.out).mono ?_
      rintro e w31 ⟨rfl, hb⟩
      refine ⟨_, rfl, ?_⟩
      have n0_ := Aside0.mk (Kd.R_below (by (with_reducible repeat (first | apply Kd.R_alloc | apply Kd.R_drewN | apply Kd.R_drew)); exact HO291.out) hb)
      have n1_ := Aside0.mk (blk_below (g := gb280) (o := .cells #[.int .i64 t281, .int .i64 t282, .int .i64 t283, .int .i64 t284, .string t285, .string t286, .bool t287, .int .i64 t288] 23 (0, 0)) (by (with_reducible repeat (first | refine blk_drewN ?_ _ | refine blk_drew ?_ | refine blk_alloc ?_ _)); exact BK280.out) hb)
      have n2_ := Aside0.mk (below_step (by repeat (first | (with_reducible first | exact HB.out | apply below_alloc | apply pw_below_drewN | apply below_drew1 | refine below_set ?_ GE280.out) | exact HB.out)) hb)
      clear HO291
      clear BK280
      clear HB
      have HO291 := n0_
      have BK280 := n1_
      have HB := n2_
      clear n0_ n1_ n2_
      (try clear hb)
      (try clear hb2)
      (try clear hk)
      (try clear hi)
      refine hK.out _ _ ⟨(blk_cell BK280.out 0).trans rfl, (blk_cell BK280.out 1).trans rfl, (blk_cell BK280.out 2).trans rfl, (blk_cell BK280.out 3).trans rfl, (blk_cell BK280.out 4).trans rfl, (blk_cell BK280.out 5).trans rfl, (blk_cell BK280.out 6).trans rfl, (blk_cell BK280.out 7).trans rfl⟩ (fun hHeld => ?_)
      clear hK K
      refine norm_ (a' := ?_) ?_ ?_
      rotate_left
      ·show Act.put _ (some 20) _ = _
       simp only [Act.put, List.setIfInBounds_toArray, List.set_cons_zero, List.set_cons_succ, i64_w, i32_w]
       rfl
      refine pure_ (i := 10) (N := some 21) (v := ?_) (a' := ?_) (List.toArray (List.replicate 11 true ++ List.replicate 26 false)) rfl rfl (any_of HT_.out (by kernel_rfl)) (fun _ _ _ h => h) (Or.inl ⟨by rfl, ?_⟩) ?_ ?_
      rotate_left
      ·intro w'
       go_simp
       with_reducible rfl
      rotate_left
      ·simp only [Act.put, List.setIfInBounds_toArray, List.set_cons_zero, List.set_cons_succ, i64_w, i32_w]
       rfl
      refine pure_ (i := 11) (N := some 22) (v := ?_) (a' := ?_) (List.toArray (List.replicate 12 true ++ List.replicate 25 false)) rfl rfl (any_of HT_.out (by kernel_rfl)) (fun _ _ _ h => h) (Or.inl ⟨by rfl, ?_⟩) ?_ ?_
      rotate_left
      ·intro w'
       go_simp
       with_reducible rfl
      rotate_left
      ·simp only [Act.put, List.setIfInBounds_toArray, List.set_cons_zero, List.set_cons_succ, i64_w, i32_w]
       rfl
      refine pure_ (i := 12) (N := some 23) (v := ?_) (a' := ?_) (List.toArray (List.replicate 13 true ++ List.replicate 24 false)) rfl rfl (any_of HT_.out (by kernel_rfl)) (fun _ _ _ h => h) (Or.inl ⟨by rfl, ?_⟩) ?_ ?_
      rotate_left
      ·intro w'
       go_simp
       with_reducible rfl
      rotate_left
      ·simp only [Act.put, List.setIfInBounds_toArray, List.set_cons_zero, List.set_cons_succ, i64_w, i32_w]
       rfl
      refine take_ (i := 13) (N := some 24) (v := ?_) (a' := ?_) (List.toArray (List.replicate 14 true ++ List.replicate 23 false)) rfl rfl (take_ofW HT_.out HW_.out (by kernel_rfl)) (fun _ _ _ h => h) (Or.inl ⟨by rfl, ?_⟩) hHeld ?_ ?_
      rotate_left
      ·rintro w' ⟨s0, s1, s2, s3, s4, s5, s6, s7⟩
       go_simp
       with_reducible rfl
      rotate_left
      ·simp only [Act.put, List.setIfInBounds_toArray, List.set_cons_zero, List.set_cons_succ, i64_w, i32_w]
       rfl
      refine take_ (i := 15) (N := some 26) (v := ?_) (a' := ?_) (List.toArray (List.replicate 14 true ++ [false, true] ++ List.replicate 21 false)) rfl rfl (take_ofW HT_.out HW_.out (by kernel_rfl)) (fun _ _ _ h => h) (Or.inl ⟨by rfl, ?_⟩) hHeld ?_ ?_
      rotate_left
      ·rintro w' ⟨s0, s1, s2, s3, s4, s5, s6, s7⟩
       go_simp
       with_reducible rfl
      rotate_left
      ·simp only [Act.put, List.setIfInBounds_toArray, List.set_cons_zero, List.set_cons_succ, i64_w, i32_w]
       rfl
      refine one_ (i := 14) (N := some 25) (List.toArray (List.replicate 16 true ++ List.replicate 21 false)) rfl rfl (one_of HT_.out (by kernel_rfl)) (by decide) (fun K hK => ?_)
      refine goes_ Tryd.func15 (by kernel_rfl) rfl #[.agg #[.int .i64 t281, .int .i64 t282, .int .i64 t283, .int .i64 t284, .string t285, .string t286, .bool t287, .int .i64 t288]] (by rfl) rfl rfl (by (try simp only [List.map_toArray, List.map_cons, List.map_nil]); first | done | rfl | (simp only [List.length_drop, List.length_take]; rfl)) ?_
      with_reducible refine (script_Put.calls t281 t282 t283 t284 t285 t286 t287 t288 t310 _ A12.out).mono ?_
      rintro e w32 ⟨rfl, hb⟩
      refine ⟨_, rfl, ?_⟩
      have n0_ := Aside0.mk (Kd.R_below (by (with_reducible repeat (first | apply Kd.R_alloc | apply Kd.R_drewN | apply Kd.R_drew)); exact HO291.out) hb)
      have n1_ := Aside0.mk (blk_below (g := gb280) (o := .cells #[.int .i64 t281, .int .i64 t282, .int .i64 t283, .int .i64 t284, .string t285, .string t286, .bool t287, .int .i64 t288] 23 (0, 0)) (by (with_reducible repeat (first | refine blk_drewN ?_ _ | refine blk_drew ?_ | refine blk_alloc ?_ _)); exact BK280.out) hb)
      have n2_ := Aside0.mk (below_step (by repeat (first | (with_reducible first | exact HB.out | apply below_alloc | apply pw_below_drewN | apply below_drew1 | refine below_set ?_ GE280.out) | exact HB.out)) hb)
      clear HO291
      clear BK280
      clear HB
      have HO291 := n0_
      have BK280 := n1_
      have HB := n2_
      clear n0_ n1_ n2_
      (try clear hb)
      (try clear hb2)
      (try clear hk)
      (try clear hi)
      refine hK.out _ _ ⟨(blk_cell BK280.out 0).trans rfl, (blk_cell BK280.out 1).trans rfl, (blk_cell BK280.out 2).trans rfl, (blk_cell BK280.out 3).trans rfl, (blk_cell BK280.out 4).trans rfl, (blk_cell BK280.out 5).trans rfl, (blk_cell BK280.out 6).trans rfl, (blk_cell BK280.out 7).trans rfl⟩ (fun hHeld => ?_)
      clear hK K
      refine norm_ (a' := ?_) ?_ ?_
      rotate_left
      ·show Act.put _ (some 25) _ = _
       simp only [Act.put, List.setIfInBounds_toArray, List.set_cons_zero, List.set_cons_succ, i64_w, i32_w]
       rfl
      refine one_ (i := 16) (N := some 27) (List.toArray (List.replicate 17 true ++ List.replicate 20 false)) rfl rfl (one_of HT_.out (by kernel_rfl)) (by decide) (fun K hK => ?_)
      refine goes_ Tryd.func16 (by kernel_rfl) rfl #[.agg #[.int .i64 t281, .int .i64 t282, .int .i64 t283, .int .i64 t284, .string t285, .string t286, .bool t287, .int .i64 t288]] (by rfl) rfl rfl (by (try simp only [List.map_toArray, List.map_cons, List.map_nil]); first | done | rfl | (simp only [List.length_drop, List.length_take]; rfl)) ?_
      with_reducible refine (rivuletref23_Put.calls t281 t282 t283 t284 t285 t286 t287 t288 t311 _ A13.out).mono ?_
      rintro e w33 ⟨rfl, hb⟩
      refine ⟨_, rfl, ?_⟩
      have n0_ := Aside0.mk (Kd.R_below (by (with_reducible repeat (first | apply Kd.R_alloc | apply Kd.R_drewN | apply Kd.R_drew)); exact HO291.out) hb)
      have n1_ := Aside0.mk (blk_below (g := gb280) (o := .cells #[.int .i64 t281, .int .i64 t282, .int .i64 t283, .int .i64 t284, .string t285, .string t286, .bool t287, .int .i64 t288] 23 (0, 0)) (by (with_reducible repeat (first | refine blk_drewN ?_ _ | refine blk_drew ?_ | refine blk_alloc ?_ _)); exact BK280.out) hb)
      have n2_ := Aside0.mk (below_step (by repeat (first | (with_reducible first | exact HB.out | apply below_alloc | apply pw_below_drewN | apply below_drew1 | refine below_set ?_ GE280.out) | exact HB.out)) hb)
      clear HO291
      clear BK280
      clear HB
      have HO291 := n0_
      have BK280 := n1_
      have HB := n2_
      clear n0_ n1_ n2_
      (try clear hb)
      (try clear hb2)
      (try clear hk)
      (try clear hi)
      refine hK.out _ _ ⟨(blk_cell BK280.out 0).trans rfl, (blk_cell BK280.out 1).trans rfl, (blk_cell BK280.out 2).trans rfl, (blk_cell BK280.out 3).trans rfl, (blk_cell BK280.out 4).trans rfl, (blk_cell BK280.out 5).trans rfl, (blk_cell BK280.out 6).trans rfl, (blk_cell BK280.out 7).trans rfl⟩ (fun hHeld => ?_)
      clear hK K
      refine norm_ (a' := ?_) ?_ ?_
      rotate_left
      ·show Act.put _ (some 27) _ = _
       simp only [Act.put, List.setIfInBounds_toArray, List.set_cons_zero, List.set_cons_succ, i64_w, i32_w]
       rfl
      refine pure_ (i := 17) (N := some 28) (v := ?_) (a' := ?_) (List.toArray (List.replicate 18 true ++ List.replicate 19 false)) rfl rfl (any_of HT_.out (by kernel_rfl)) (fun _ _ _ h => h) (Or.inl ⟨by rfl, ?_⟩) ?_ ?_
      rotate_left
      ·intro w'
       go_simp
       with_reducible rfl
      rotate_left
      ·simp only [Act.put, List.setIfInBounds_toArray, List.set_cons_zero, List.set_cons_succ, i64_w, i32_w]
       rfl
      refine pure_ (i := 18) (N := some 29) (v := ?_) (a' := ?_) (List.toArray (List.replicate 19 true ++ List.replicate 18 false)) rfl rfl (any_of HT_.out (by kernel_rfl)) (fun _ _ _ h => h) (Or.inl ⟨by rfl, ?_⟩) ?_ ?_
      rotate_left
      ·intro w'
       go_simp
       with_reducible rfl
      rotate_left
      ·simp only [Act.put, List.setIfInBounds_toArray, List.set_cons_zero, List.set_cons_succ, i64_w, i32_w]
       rfl
      refine pure_ (i := 19) (N := some 30) (v := ?_) (a' := ?_) (List.toArray (List.replicate 20 true ++ List.replicate 17 false)) rfl rfl (any_of HT_.out (by kernel_rfl)) (fun _ _ _ h => h) (Or.inl ⟨by rfl, ?_⟩) ?_ ?_
      rotate_left
      ·intro w'
       go_simp
       with_reducible rfl
      rotate_left
      ·simp only [Act.put, List.setIfInBounds_toArray, List.set_cons_zero, List.set_cons_succ, i64_w, i32_w]
       rfl
      refine pure_ (i := 20) (N := some 31) (v := ?_) (a' := ?_) (List.toArray (List.replicate 21 true ++ List.replicate 16 false)) rfl rfl (any_of HT_.out (by kernel_rfl)) (fun _ _ _ h => h) (Or.inl ⟨by rfl, ?_⟩) ?_ ?_
      rotate_left
      ·intro w'
       go_simp
       with_reducible rfl
      rotate_left
      ·simp only [Act.put, List.setIfInBounds_toArray, List.set_cons_zero, List.set_cons_succ, i64_w, i32_w]
       rfl
      refine pure_ (i := 22) (N := some 33) (v := ?_) (a' := ?_) (List.toArray (List.replicate 21 true ++ [false, true] ++ List.replicate 14 false)) rfl rfl (any_of HT_.out (by kernel_rfl)) (fun _ _ _ h => h) (Or.inl ⟨by rfl, ?_⟩) ?_ ?_
      rotate_left
      ·intro w'
       go_simp
       with_reducible rfl
      rotate_left
      ·simp only [Act.put, List.setIfInBounds_toArray, List.set_cons_zero, List.set_cons_succ, i64_w, i32_w]
       rfl
      refine one_ (i := 21) (N := some 32) (List.toArray (List.replicate 23 true ++ List.replicate 14 false)) rfl rfl (one_of HT_.out (by kernel_rfl)) (by decide) (fun K hK => ?_)
      refine goes_ Tryd.func17 (by kernel_rfl) rfl #[.int .i64 a1] (by rfl) rfl rfl (by (try simp only [List.map_toArray, List.map_cons, List.map_nil]); first | done | rfl | (simp only [List.length_drop, List.length_take]; rfl)) ?_
      with_reducible refine (script_Name.calls a1 t312 _ A15.out).mono ?_
      rintro e w34 ⟨rfl, hb⟩
      refine ⟨_, rfl, ?_⟩
      have n0_ := Aside0.mk (Kd.R_below (by (with_reducible repeat (first | apply Kd.R_alloc | apply Kd.R_drewN | apply Kd.R_drew)); exact HO291.out) hb)
      have n1_ := Aside0.mk (blk_below (g := gb280) (o := .cells #[.int .i64 t281, .int .i64 t282, .int .i64 t283, .int .i64 t284, .string t285, .string t286, .bool t287, .int .i64 t288] 23 (0, 0)) (by (with_reducible repeat (first | refine blk_drewN ?_ _ | refine blk_drew ?_ | refine blk_alloc ?_ _)); exact BK280.out) hb)
      have n2_ := Aside0.mk (below_step (by repeat (first | (with_reducible first | exact HB.out | apply below_alloc | apply pw_below_drewN | apply below_drew1 | refine below_set ?_ GE280.out) | exact HB.out)) hb)
      clear HO291
      clear BK280
      clear HB
      have HO291 := n0_
      have BK280 := n1_
      have HB := n2_
      clear n0_ n1_ n2_
      (try clear hb)
      (try clear hb2)
      (try clear hk)
      (try clear hi)
      refine hK.out _ _ ⟨(blk_cell BK280.out 0).trans rfl, (blk_cell BK280.out 1).trans rfl, (blk_cell BK280.out 2).trans rfl, (blk_cell BK280.out 3).trans rfl, (blk_cell BK280.out 4).trans rfl, (blk_cell BK280.out 5).trans rfl, (blk_cell BK280.out 6).trans rfl, (blk_cell BK280.out 7).trans rfl⟩ (fun hHeld => ?_)
      clear hK K
      refine norm_ (a' := ?_) ?_ ?_
      rotate_left
      ·show Act.put _ (some 32) _ = _
       simp only [Act.put, List.setIfInBounds_toArray, List.set_cons_zero, List.set_cons_succ, i64_w, i32_w]
       rfl
      refine one_ (i := 23) (N := some 34) (List.toArray (List.replicate 24 true ++ List.replicate 13 false)) rfl rfl (one_of HT_.out (by kernel_rfl)) (by decide) (fun K hK => ?_)
      refine goes_ Tryd.func18 (by kernel_rfl) rfl #[.int .i64 a1] (by rfl) rfl rfl (by (try simp only [List.map_toArray, List.map_cons, List.map_nil]); first | done | rfl | (simp only [List.length_drop, List.length_take]; rfl)) ?_
      with_reducible refine (rivuletref23_Name.calls a1 t313 _ A16.out).mono ?_
      rintro e w35 ⟨rfl, hb⟩
      refine ⟨_, rfl, ?_⟩
      have n0_ := Aside0.mk (Kd.R_below (by (with_reducible repeat (first | apply Kd.R_alloc | apply Kd.R_drewN | apply Kd.R_drew)); exact HO291.out) hb)
      have n1_ := Aside0.mk (blk_below (g := gb280) (o := .cells #[.int .i64 t281, .int .i64 t282, .int .i64 t283, .int .i64 t284, .string t285, .string t286, .bool t287, .int .i64 t288] 23 (0, 0)) (by (with_reducible repeat (first | refine blk_drewN ?_ _ | refine blk_drew ?_ | refine blk_alloc ?_ _)); exact BK280.out) hb)
      have n2_ := Aside0.mk (below_step (by repeat (first | (with_reducible first | exact HB.out | apply below_alloc | apply pw_below_drewN | apply below_drew1 | refine below_set ?_ GE280.out) | exact HB.out)) hb)
      clear HO291
      clear BK280
      clear HB
      have HO291 := n0_
      have BK280 := n1_
      have HB := n2_
      clear n0_ n1_ n2_
      (try clear hb)
      (try clear hb2)
      (try clear hk)
      (try clear hi)
      obtain ⟨Ao36, co36, eo36⟩ := Kd.R_slice HO291.out
      (first | subst eo36 | (injection eo36 with f1_ f2_ f3_; have f4_ := f1_.symm; have f5_ := f3_.symm; clear f1_ f2_ f3_; subst f4_; subst f5_))
      refine hK.out _ _ ⟨(blk_cell BK280.out 0).trans rfl, (blk_cell BK280.out 1).trans rfl, (blk_cell BK280.out 2).trans rfl, (blk_cell BK280.out 3).trans rfl, (blk_cell BK280.out 4).trans rfl, (blk_cell BK280.out 5).trans rfl, (blk_cell BK280.out 6).trans rfl, (blk_cell BK280.out 7).trans rfl⟩ (fun hHeld => ?_)
      clear hK K
      refine norm_ (a' := ?_) ?_ ?_
      rotate_left
      ·show Act.put _ (some 34) _ = _
       simp only [Act.put, List.setIfInBounds_toArray, List.set_cons_zero, List.set_cons_succ, i64_w, i32_w]
       rfl
      refine pure_ (i := 24) (N := some 35) (v := ?_) (a' := ?_) (List.toArray (List.replicate 25 true ++ List.replicate 12 false)) rfl rfl (any_of HT_.out (by kernel_rfl)) (fun _ _ _ h => h) (Or.inl ⟨by rfl, ?_⟩) ?_ ?_
      rotate_left
      ·intro w'
       go_simp
       with_reducible rfl
      rotate_left
      ·simp only [Act.put, List.setIfInBounds_toArray, List.set_cons_zero, List.set_cons_succ, i64_w, i32_w]
       rfl
      refine pure_ (i := 25) (N := some 36) (v := ?_) (a' := ?_) (List.toArray (List.replicate 26 true ++ List.replicate 11 false)) rfl rfl (any_of HT_.out (by kernel_rfl)) (fun _ _ _ h => h) (Or.inl ⟨by rfl, ?_⟩) ?_ ?_
      rotate_left
      ·intro w'
       go_simp
       with_reducible rfl
      rotate_left
      ·simp only [Act.put, List.setIfInBounds_toArray, List.set_cons_zero, List.set_cons_succ, i64_w, i32_w]
       rfl
      refine pure_ (i := 26) (N := some 37) (v := ?_) (a' := ?_) (List.toArray (List.replicate 27 true ++ List.replicate 10 false)) rfl rfl (any_of HT_.out (by kernel_rfl)) (fun _ _ _ h => h) (Or.inl ⟨by rfl, ?_⟩) ?_ ?_
      rotate_left
      ·intro w'
       go_simp
       with_reducible rfl
      rotate_left
      ·simp only [Act.put, List.setIfInBounds_toArray, List.set_cons_zero, List.set_cons_succ, i64_w, i32_w]
       rfl
      refine pure_ (i := 27) (N := some 38) (v := ?_) (a' := ?_) (List.toArray (List.replicate 28 true ++ List.replicate 9 false)) rfl rfl (any_of HT_.out (by kernel_rfl)) (fun _ _ _ h => h) (Or.inl ⟨by rfl, ?_⟩) ?_ ?_
      rotate_left
      ·intro w'
       go_simp
       with_reducible rfl
      rotate_left
      ·simp only [Act.put, List.setIfInBounds_toArray, List.set_cons_zero, List.set_cons_succ, i64_w, i32_w]
       rfl
      refine pure_ (i := 29) (N := some 40) (v := ?_) (a' := ?_) (List.toArray (List.replicate 28 true ++ [false, true, false, false, false, false, false, false, false])) rfl rfl (any_of HT_.out (by kernel_rfl)) (fun _ _ _ h => h) (Or.inl ⟨by rfl, ?_⟩) ?_ ?_
      rotate_left
      ·intro w'
       go_simp
       with_reducible rfl
      rotate_left
      ·simp only [Act.put, List.setIfInBounds_toArray, List.set_cons_zero, List.set_cons_succ, i64_w, i32_w]
       rfl
      refine one_ (i := 28) (N := some 39) (List.toArray (List.replicate 30 true ++ [false, false, false, false, false, false, false])) rfl rfl (one_of HT_.out (by kernel_rfl)) (by decide) (fun K hK => ?_)
      refine goes_ Tryd.func19 (by kernel_rfl) rfl #[.slice Ao36 t289.length co36] (by rfl) rfl rfl (by (try simp only [List.map_toArray, List.map_cons, List.map_nil]); first | done | rfl | (simp only [List.length_drop, List.length_take]; rfl)) ?_
      with_reducible refine (script_Show.callsT _ _ t289 t314 w _ hT_.out (by repeat (first | (with_reducible first | exact HB.out | apply below_alloc | apply pw_below_drewN | apply below_drew1 | refine below_set ?_ GE280.out) | exact HB.out)) ?side1 ?side2 A18.out).mono ?_
      (case side1 => repeat (first | exact (Kd.R_reads' HO291.out).2.2 | (with_reducible refine Kd.C_alloc ?_ _) | (with_reducible refine Kd.C_drewN ?_ _) | (with_reducible refine Kd.C_drew ?_)))
      (case side2 => exact (Kd.R_reads' HO291.out).2.1)
      rintro e w37 ⟨rfl, hb⟩
      refine ⟨_, rfl, ?_⟩
      have n0_ := Aside0.mk (Kd.R_below (by (with_reducible repeat (first | apply Kd.R_alloc | apply Kd.R_drewN | apply Kd.R_drew)); exact HO291.out) hb)
      have n1_ := Aside0.mk (blk_below (g := gb280) (o := .cells #[.int .i64 t281, .int .i64 t282, .int .i64 t283, .int .i64 t284, .string t285, .string t286, .bool t287, .int .i64 t288] 23 (0, 0)) (by (with_reducible repeat (first | refine blk_drewN ?_ _ | refine blk_drew ?_ | refine blk_alloc ?_ _)); exact BK280.out) hb)
      have n2_ := Aside0.mk (below_step (by repeat (first | (with_reducible first | exact HB.out | apply below_alloc | apply pw_below_drewN | apply below_drew1 | refine below_set ?_ GE280.out) | exact HB.out)) hb)
      clear HO291
      clear BK280
      clear HB
      have HO291 := n0_
      have BK280 := n1_
      have HB := n2_
      clear n0_ n1_ n2_
      (try clear hb)
      (try clear hb2)
      (try clear hk)
      (try clear hi)
      refine hK.out _ _ ⟨(blk_cell BK280.out 0).trans rfl, (blk_cell BK280.out 1).trans rfl, (blk_cell BK280.out 2).trans rfl, (blk_cell BK280.out 3).trans rfl, (blk_cell BK280.out 4).trans rfl, (blk_cell BK280.out 5).trans rfl, (blk_cell BK280.out 6).trans rfl, (blk_cell BK280.out 7).trans rfl⟩ (fun hHeld => ?_)
      clear hK K
      refine norm_ (a' := ?_) ?_ ?_
      rotate_left
      ·show Act.put _ (some 39) _ = _
       simp only [Act.put, List.setIfInBounds_toArray, List.set_cons_zero, List.set_cons_succ, i64_w, i32_w]
       rfl
      refine one_ (i := 30) (N := some 41) (List.toArray (List.replicate 31 true ++ [false, false, false, false, false, false])) rfl rfl (one_of HT_.out (by kernel_rfl)) (by decide) (fun K hK => ?_)
      refine goes_ Tryd.func20 (by kernel_rfl) rfl #[.slice Ao36 t289.length co36] (by rfl) rfl rfl (by (try simp only [List.map_toArray, List.map_cons, List.map_nil]); first | done | rfl | (simp only [List.length_drop, List.length_take]; rfl)) ?_
      with_reducible refine (rivuletref23_Show.calls k _ _ t289 t315 _ ?side1 ?side2 A19.out).mono ?_
      (case side1 => repeat (first | exact (Kd.R_reads' HO291.out).2.2 | (with_reducible refine Kd.C_alloc ?_ _) | (with_reducible refine Kd.C_drewN ?_ _) | (with_reducible refine Kd.C_drew ?_)))
      (case side2 => exact (Kd.R_reads' HO291.out).2.1)
      rintro e w38 ⟨rfl, hb⟩
      refine ⟨_, rfl, ?_⟩
      have n0_ := Aside0.mk (Kd.R_below (by (with_reducible repeat (first | apply Kd.R_alloc | apply Kd.R_drewN | apply Kd.R_drew)); exact HO291.out) hb)
      have n1_ := Aside0.mk (blk_below (g := gb280) (o := .cells #[.int .i64 t281, .int .i64 t282, .int .i64 t283, .int .i64 t284, .string t285, .string t286, .bool t287, .int .i64 t288] 23 (0, 0)) (by (with_reducible repeat (first | refine blk_drewN ?_ _ | refine blk_drew ?_ | refine blk_alloc ?_ _)); exact BK280.out) hb)
      have n2_ := Aside0.mk (below_step (by repeat (first | (with_reducible first | exact HB.out | apply below_alloc | apply pw_below_drewN | apply below_drew1 | refine below_set ?_ GE280.out) | exact HB.out)) hb)
      clear HO291
      clear BK280
      clear HB
      have HO291 := n0_
      have BK280 := n1_
      have HB := n2_
      clear n0_ n1_ n2_
      (try clear hb)
      (try clear hb2)
      (try clear hk)
      (try clear hi)
      refine hK.out _ _ ⟨(blk_cell BK280.out 0).trans rfl, (blk_cell BK280.out 1).trans rfl, (blk_cell BK280.out 2).trans rfl, (blk_cell BK280.out 3).trans rfl, (blk_cell BK280.out 4).trans rfl, (blk_cell BK280.out 5).trans rfl, (blk_cell BK280.out 6).trans rfl, (blk_cell BK280.out 7).trans rfl⟩ (fun hHeld => ?_)
      clear hK K
      refine norm_ (a' := ?_) ?_ ?_
      rotate_left
      ·show Act.put _ (some 41) _ = _
       simp only [Act.put, List.setIfInBounds_toArray, List.set_cons_zero, List.set_cons_succ, i64_w, i32_w]
       rfl
      refine pure_ (i := 31) (N := some 42) (v := ?_) (a' := ?_) (List.toArray (List.replicate 32 true ++ [false, false, false, false, false])) rfl rfl (any_of HT_.out (by kernel_rfl)) (fun _ _ _ h => h) (Or.inl ⟨by rfl, ?_⟩) ?_ ?_
      rotate_left
      ·intro w'
       go_simp
       with_reducible rfl
      rotate_left
      ·simp only [Act.put, List.setIfInBounds_toArray, List.set_cons_zero, List.set_cons_succ, i64_w, i32_w]
       rfl
      refine pure_ (i := 32) (N := some 43) (v := ?_) (a' := ?_) (List.toArray (List.replicate 33 true ++ [false, false, false, false])) rfl rfl (any_of HT_.out (by kernel_rfl)) (fun _ _ _ h => h) (Or.inl ⟨by rfl, ?_⟩) ?_ ?_
      rotate_left
      ·intro w'
       go_simp
       with_reducible rfl
      rotate_left
      ·simp only [Act.put, List.setIfInBounds_toArray, List.set_cons_zero, List.set_cons_succ, i64_w, i32_w]
       rfl
      refine pure_ (i := 33) (N := some 44) (v := ?_) (a' := ?_) (List.toArray (List.replicate 34 true ++ [false, false, false])) rfl rfl (any_of HT_.out (by kernel_rfl)) (fun _ _ _ h => h) (Or.inl ⟨by rfl, ?_⟩) ?_ ?_
      rotate_left
      ·intro w'
       go_simp
       with_reducible rfl
      rotate_left
      ·simp only [Act.put, List.setIfInBounds_toArray, List.set_cons_zero, List.set_cons_succ, i64_w, i32_w]
       rfl
      refine one_ (i := 34) (N := some 45) (List.toArray (List.replicate 35 true ++ [false, false])) rfl rfl (one_of HT_.out (by kernel_rfl)) (by decide) (fun K hK => ?_)
      refine goes_ Tryd.func21 (by kernel_rfl) rfl #[] (by rfl) rfl rfl (by (try simp only [List.map_toArray, List.map_cons, List.map_nil]); first | done | rfl | (simp only [List.length_drop, List.length_take]; rfl)) ?_
      with_reducible refine (rivuletlaw23_fixed.calls k  t316 _ A21.out).mono ?_
      rintro e w39 ⟨rfl, hb⟩
      refine ⟨_, rfl, ?_⟩
      have n0_ := Aside0.mk (Kd.R_below (by (with_reducible repeat (first | apply Kd.R_alloc | apply Kd.R_drewN | apply Kd.R_drew)); exact HO291.out) hb)
      have n1_ := Aside0.mk (blk_below (g := gb280) (o := .cells #[.int .i64 t281, .int .i64 t282, .int .i64 t283, .int .i64 t284, .string t285, .string t286, .bool t287, .int .i64 t288] 23 (0, 0)) (by (with_reducible repeat (first | refine blk_drewN ?_ _ | refine blk_drew ?_ | refine blk_alloc ?_ _)); exact BK280.out) hb)
      have n2_ := Aside0.mk (below_step (by repeat (first | (with_reducible first | exact HB.out | apply below_alloc | apply pw_below_drewN | apply below_drew1 | refine below_set ?_ GE280.out) | exact HB.out)) hb)
      clear HO291
      clear BK280
      clear HB
      have HO291 := n0_
      have BK280 := n1_
      have HB := n2_
      clear n0_ n1_ n2_
      (try clear hb)
      (try clear hb2)
      (try clear hk)
      (try clear hi)
      refine hK.out _ _ ⟨(blk_cell BK280.out 0).trans rfl, (blk_cell BK280.out 1).trans rfl, (blk_cell BK280.out 2).trans rfl, (blk_cell BK280.out 3).trans rfl, (blk_cell BK280.out 4).trans rfl, (blk_cell BK280.out 5).trans rfl, (blk_cell BK280.out 6).trans rfl, (blk_cell BK280.out 7).trans rfl⟩ (fun hHeld => ?_)
      clear hK K
      refine norm_ (a' := ?_) ?_ ?_
      rotate_left
      ·show Act.put _ (some 45) _ = _
       simp only [Act.put, List.setIfInBounds_toArray, List.set_cons_zero, List.set_cons_succ, i64_w, i32_w]
       rfl
      refine pure_ (i := 35) (N := some 46) (v := ?_) (a' := ?_) (List.toArray (List.replicate 36 true ++ [false])) rfl rfl (any_of HT_.out (by kernel_rfl)) (fun _ _ _ h => h) (Or.inl ⟨by rfl, ?_⟩) ?_ ?_
      rotate_left
      ·intro w'
       go_simp
       with_reducible rfl
      rotate_left
      ·simp only [Act.put, List.setIfInBounds_toArray, List.set_cons_zero, List.set_cons_succ, i64_w, i32_w]
       rfl
      refine pure_ (i := 36) (N := some 6) (v := ?_) (a' := ?_) (List.toArray (List.replicate 37 true)) rfl rfl (any_of HT_.out (by kernel_rfl)) (fun _ _ _ h => h) (Or.inl ⟨by rfl, ?_⟩) ?_ ?_
      rotate_left
      ·intro w'
       go_simp
       with_reducible rfl
      rotate_left
      ·simp only [Act.put, List.setIfInBounds_toArray, List.set_cons_zero, List.set_cons_succ, i64_w, i32_w]
       rfl
      refine done_ (done_of HT_.out (by kernel_rfl)) ?_
      try go_wp2
      go_ret
      exact ⟨by first | rfl | (simp [errW_none, errW_some] <;> rfl) | (simp [*, errW_none, errW_some] <;> rfl), by repeat (first | (with_reducible first | exact HB.out | apply below_alloc | apply pw_below_drewN | apply below_drew1 | refine below_set ?_ GE280.out) | exact HB.out)⟩
     ·rw [if_neg c20] at H
      have c20b0 : (t314.toList == t315.toList) = false := beq_eq_false_iff_ne.mpr c20
      have c20b1 : (t314.toList != t315.toList) = true := bne_iff_ne.mpr c20
      exact absurd (Option.some.inj H) (by rw [hr_.out]; decide)
    ·rw [if_neg c17] at H
     have c17b0 : (t312.toList == t313.toList) = false := beq_eq_false_iff_ne.mpr c17
     have c17b1 : (t312.toList != t313.toList) = true := bne_iff_ne.mpr c17
     exact absurd (Option.some.inj H) (by rw [hr_.out]; decide)
   ·rw [if_neg c14] at H
    have c14b0 : (t310.toList == t311.toList) = false := beq_eq_false_iff_ne.mpr c14
    have c14b1 : (t310.toList != t311.toList) = true := bne_iff_ne.mpr c14
    exact absurd (Option.some.inj H) (by rw [hr_.out]; decide)
  ·rw [if_neg c11] at H
   have c11b0 : (t294 == t302 && (t295 == t303 && (t296 == t304 && (t297 == t305 && (t298.toList == t306.toList && (t299.toList == t307.toList && (t300 == t308 && (t301 == t309)))))))) = false := by simpa using c11
   (try (have c11b1 : decide (t294 = t302 && (t295 == t303 && (t296 == t304 && (t297 == t305 && (t298.toList == t306.toList && (t299.toList == t307.toList && (t300 == t308 && (t301 == t309)))))))) = false := by simpa using c11))
   (try (have c11b2 : (t294 == t302 && (t295 == t303 && (t296 == t304 && (t297 == t305 && (t298.toList == t306.toList && (t299.toList == t307.toList && (t300 == t308 && (t301 == t309)))))))) = false := by simpa using c11))
   (try (have c11b3 : ¬ (t294 = t302 && (t295 == t303 && (t296 == t304 && (t297 == t305 && (t298.toList == t306.toList && (t299.toList == t307.toList && (t300 == t308 && (t301 == t309)))))))) := by simpa using c11))
   clear c11
   exact absurd (Option.some.inj H) (by rw [hr_.out]; decide)
 ·rw [if_neg c8] at H
  have c8b0 : (t292 == t293) = false := by simpa using c8
  (try (have c8b1 : decide (t292 = t293) = false := by simpa using c8))
  (try (have c8b2 : (t292 == t293) = false := by simpa using c8))
  (try (have c8b3 : ¬ (t292 = t293) := by simpa using c8))
  clear c8
  exact absurd (Option.some.inj H) (by rw [hr_.out]; decide)
end Go.Proofs.YtjjimkmbbifbjaaDoor.Pr
