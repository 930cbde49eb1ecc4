import Derived.Test.YtdoaomoocikmaaaDoorKPuts33
import Derived.Test.YtdoaomoocikmaaaDoorKPuts34
import Derived.Test.YtdoaomoocikmaaaDoorKPuts35
import Derived.Test.YtdoaomoocikmaaaDoorKPuts37
import Derived.Test.YtdoaomoocikmaaaDoorKPuts38
namespace Go.Proofs.YtdoaomoocikmaaaDoor.Pr
open Go.RowKit Go.Proofs.YtdoaomoocikmaaaDoorW.PrintWords Go.Proofs.YtdoaomoocikmaaaDoorW.PrintLast Go.Proofs.YtdoaomoocikmaaaDoorW.PrintMore
attribute [local go_sem] max2_int min2_int max_two min_two max_three min_three max_four min_four
set_option linter.unusedVariables false
set_option linter.unusedSimpArgs false
attribute [local go_sem high] eqA23
def rivuletlaw06_EventPuts.f (k : Nat) (a0_0 : Int) (a0_1 : Int) (a0_2 : ByteArray) (a0_3 : ByteArray) (a0_4 : Int) (a1_0 : Int) (a1_1 : Int) (a1_2 : ByteArray) (a1_3 : ByteArray) (a1_4 : Int) (a2 : Int) : Option (Bool) := (rivuletlaw06_cut.f a0_0 a0_1 a0_2 a0_3 a0_4).bind fun bt230 => ((rivuletlaw06_cut.f a1_0 a1_1 a1_2 a1_3 a1_4).bind fun bt235 => ((event_Right.f bt230.1 bt230.2.1 bt230.2.2.1 bt230.2.2.2.1 bt230.2.2.2.2).bind fun t240 => ((rivuletref06_Right.f bt230.1 bt230.2.1 bt230.2.2.1 bt230.2.2.2.1 bt230.2.2.2.2).bind fun t241 => (if (t240 == t241) = true then ((event_Put.f bt230.1 bt230.2.1 bt230.2.2.1 bt230.2.2.2.1 bt230.2.2.2.2).bind fun t242 => ((rivuletref06_Put.f bt230.1 bt230.2.1 bt230.2.2.1 bt230.2.2.2.1 bt230.2.2.2.2).bind fun t243 => (if t242.toList = t243.toList then ((event_Show.fT bt230.1 bt230.2.1 bt230.2.2.1 bt230.2.2.2.1 bt230.2.2.2.2).bind fun t244 => ((rivuletref06_Show.f k bt230.1 bt230.2.1 bt230.2.2.1 bt230.2.2.2.1 bt230.2.2.2.2).bind fun t245 => (if t244.toList = t245.toList then ((event_Age.f bt230.1 bt230.2.1 bt230.2.2.1 bt230.2.2.2.1 bt230.2.2.2.2 a2).bind fun bt246 => ((rivuletref06_Age.f bt230.1 bt230.2.1 bt230.2.2.1 bt230.2.2.2.1 bt230.2.2.2.2 a2).bind fun bt251 => (if (bt246.1 == bt251.1 && (bt246.2.1 == bt251.2.1 && (bt246.2.2.1.toList == bt251.2.2.1.toList && (bt246.2.2.2.1.toList == bt251.2.2.2.1.toList && (bt246.2.2.2.2 == bt251.2.2.2.2))))) = true then ((event_Same.f bt230.1 bt230.2.1 bt230.2.2.1 bt230.2.2.2.1 bt230.2.2.2.2 bt235.1 bt235.2.1 bt235.2.2.1 bt235.2.2.2.1 bt235.2.2.2.2).bind fun t256 => ((rivuletref06_Same.f bt230.1 bt230.2.1 bt230.2.2.1 bt230.2.2.2.1 bt230.2.2.2.2 bt235.1 bt235.2.1 bt235.2.2.1 bt235.2.2.2.1 bt235.2.2.2.2).bind fun t257 => (if (t256 == t257) = true then ((rivuletlaw06_fixed.f k).bind fun t258 => (some t258)) else (some false)))) else (some false)))) else (some false)))) else (some false)))) else (some false)))))
def rivuletlaw06_EventPuts.T3 : Bool × List (List Nat × List Nat) := (true, [([], []), ([0], [0]), ([], []), ([2, 1], [2]), ([1, 3], [1, 3]), ([4, 3], [4]), ([5], [5]), ([6, 5, 5], [5, 6]), ([5], [5]), ([8, 7, 5], [5, 8]), ([7, 9, 5], [5, 7, 9]), ([5, 10], [5, 10]), ([11, 9], [11]), ([12], [12]), ([13, 12, 12], [12, 13]), ([12], [12]), ([15, 14, 12], [12, 15]), ([14, 16, 12], [12, 14, 16]), ([12, 17], [12, 17]), ([18, 16], [18]), ([19], [19]), ([19], [19]), ([20, 21, 19, 19], [19, 20, 21]), ([19], [19]), ([19], [19]), ([23, 24, 22, 19], [19, 23, 24]), ([22, 25, 19], [19, 22, 25]), ([19, 26], [19, 26]), ([27, 25], [27]), ([28], [28]), ([28], [28]), ([29, 30, 28, 28], [28, 29, 30]), ([28], [28]), ([28], [28]), ([32, 33, 31, 28], [28, 32, 33]), ([31, 34, 28], [28, 31, 34]), ([28, 35], [28, 35]), ([36, 34], [36]), ([37, 37], [37]), ([37, 38], [37, 38]), ([39, 38, 0, 1, 2, 3, 4, 5, 6, 7, 8, 9, 10, 11, 12, 13, 14, 15, 16, 17, 18, 19, 20, 21, 22, 23, 24, 25, 26, 27, 28, 29, 30, 31, 32, 33, 34, 35, 36, 37, 38, 39], [39])])
def rivuletlaw06_EventPuts.B3 : List Nat := [0, 1, 0, 7, 15, 31, 63, 127, 63, 511, 1023, 2047, 4095, 8191, 16383, 8191, 65535, 131071, 262143, 524287, 1048575, 1048575, 4194303, 1048575, 1048575, 33554431, 67108863, 134217727, 268435455, 536870911, 536870911, 2147483647, 536870911, 536870911, 17179869183, 34359738367, 68719476735, 137438953471, 274877906943, 549755813887, 1099511627775]
theorem rivuletlaw06_EventPuts.tab3 : rtab .any (opsOf Tryd.f3 3) = rivuletlaw06_EventPuts.T3 := by kernel_rfl
theorem rivuletlaw06_EventPuts.bits3 : waitsOk rivuletlaw06_EventPuts.T3.2 rivuletlaw06_EventPuts.B3 = true := by kernel_rfl
set_option maxHeartbeats 8000000 in
set_option maxRecDepth 100000 in
theorem rivuletlaw06_EventPuts.calls (k : Nat) (a0_0 : Int) (a0_1 : Int) (a0_2 : ByteArray) (a0_3 : ByteArray) (a0_4 : Int) (a1_0 : Int) (a1_1 : Int) (a1_2 : ByteArray) (a1_3 : ByteArray) (a1_4 : Int) (a2 : Int) (r : Bool) (w : World) (hT_ : Aside0 (EW.Tab w.heap.size w)) (hr_ : Aside0 (r = true)) (h : rivuletlaw06_EventPuts.f k a0_0 a0_1 a0_2 a0_3 a0_4 a1_0 a1_1 a1_2 a1_3 a1_4 a2 = some r) :
    Calls Tryd.prog 3 #[.agg #[.int .i64 a0_0, .int .i64 a0_1, .string a0_2, .string a0_3, .int .i64 a0_4], .agg #[.int .i64 a1_0, .int .i64 a1_1, .string a1_2, .string a1_3, .int .i64 a1_4], .int .i64 a2] w fun e w' => e = .returned (.bool r) ∧ Below w.heap.size w w' := by
  have hu23 := Tryd.underlying23
  have HB := Aside0.mk (Below.refl w.heap.size w)
  have H : ((rivuletlaw06_cut.f a0_0 a0_1 a0_2 a0_3 a0_4).bind fun bt230 => ((rivuletlaw06_cut.f a1_0 a1_1 a1_2 a1_3 a1_4).bind fun bt235 => ((event_Right.f bt230.1 bt230.2.1 bt230.2.2.1 bt230.2.2.2.1 bt230.2.2.2.2).bind fun t240 => ((rivuletref06_Right.f bt230.1 bt230.2.1 bt230.2.2.1 bt230.2.2.2.1 bt230.2.2.2.2).bind fun t241 => (if (t240 == t241) = true then ((event_Put.f bt230.1 bt230.2.1 bt230.2.2.1 bt230.2.2.2.1 bt230.2.2.2.2).bind fun t242 => ((rivuletref06_Put.f bt230.1 bt230.2.1 bt230.2.2.1 bt230.2.2.2.1 bt230.2.2.2.2).bind fun t243 => (if t242.toList = t243.toList then ((event_Show.fT bt230.1 bt230.2.1 bt230.2.2.1 bt230.2.2.2.1 bt230.2.2.2.2).bind fun t244 => ((rivuletref06_Show.f k bt230.1 bt230.2.1 bt230.2.2.1 bt230.2.2.2.1 bt230.2.2.2.2).bind fun t245 => (if t244.toList = t245.toList then ((event_Age.f bt230.1 bt230.2.1 bt230.2.2.1 bt230.2.2.2.1 bt230.2.2.2.2 a2).bind fun bt246 => ((rivuletref06_Age.f bt230.1 bt230.2.1 bt230.2.2.1 bt230.2.2.2.1 bt230.2.2.2.2 a2).bind fun bt251 => (if (bt246.1 == bt251.1 && (bt246.2.1 == bt251.2.1 && (bt246.2.2.1.toList == bt251.2.2.1.toList && (bt246.2.2.2.1.toList == bt251.2.2.2.1.toList && (bt246.2.2.2.2 == bt251.2.2.2.2))))) = true then ((event_Same.f bt230.1 bt230.2.1 bt230.2.2.1 bt230.2.2.2.1 bt230.2.2.2.2 bt235.1 bt235.2.1 bt235.2.2.1 bt235.2.2.2.1 bt235.2.2.2.2).bind fun t256 => ((rivuletref06_Same.f bt230.1 bt230.2.1 bt230.2.2.1 bt230.2.2.2.1 bt230.2.2.2.2 bt235.1 bt235.2.1 bt235.2.2.1 bt235.2.2.2.1 bt235.2.2.2.2).bind fun t257 => (if (t256 == t257) = true then ((rivuletlaw06_fixed.f k).bind fun t258 => (some t258)) else (some false)))) else (some false)))) else (some false)))) else (some false)))) else (some false)))))) = some r := h
  clear h
  replace H := Option.bind_eq_some_iff.mp H
  obtain ⟨⟨t230, t231, t232, t233, t234⟩, A40, H⟩ := H
  replace H : ((rivuletlaw06_cut.f a1_0 a1_1 a1_2 a1_3 a1_4).bind fun bt235 => ((event_Right.f t230 t231 t232 t233 t234).bind fun t240 => ((rivuletref06_Right.f t230 t231 t232 t233 t234).bind fun t241 => (if (t240 == t241) = true then ((event_Put.f t230 t231 t232 t233 t234).bind fun t242 => ((rivuletref06_Put.f t230 t231 t232 t233 t234).bind fun t243 => (if t242.toList = t243.toList then ((event_Show.fT t230 t231 t232 t233 t234).bind fun t244 => ((rivuletref06_Show.f k t230 t231 t232 t233 t234).bind fun t245 => (if t244.toList = t245.toList then ((event_Age.f t230 t231 t232 t233 t234 a2).bind fun bt246 => ((rivuletref06_Age.f t230 t231 t232 t233 t234 a2).bind fun bt251 => (if (bt246.1 == bt251.1 && (bt246.2.1 == bt251.2.1 && (bt246.2.2.1.toList == bt251.2.2.1.toList && (bt246.2.2.2.1.toList == bt251.2.2.2.1.toList && (bt246.2.2.2.2 == bt251.2.2.2.2))))) = true then ((event_Same.f t230 t231 t232 t233 t234 bt235.1 bt235.2.1 bt235.2.2.1 bt235.2.2.2.1 bt235.2.2.2.2).bind fun t256 => ((rivuletref06_Same.f t230 t231 t232 t233 t234 bt235.1 bt235.2.1 bt235.2.2.1 bt235.2.2.2.1 bt235.2.2.2.2).bind fun t257 => (if (t256 == t257) = true then ((rivuletlaw06_fixed.f k).bind fun t258 => (some t258)) else (some false)))) else (some false)))) else (some false)))) else (some false)))) else (some false))))) = some r := H
  have A4 := Aside0.mk A40
  clear A40
  replace H := Option.bind_eq_some_iff.mp H
  obtain ⟨⟨t235, t236, t237, t238, t239⟩, A50, H⟩ := H
  replace H : ((event_Right.f t230 t231 t232 t233 t234).bind fun t240 => ((rivuletref06_Right.f t230 t231 t232 t233 t234).bind fun t241 => (if (t240 == t241) = true then ((event_Put.f t230 t231 t232 t233 t234).bind fun t242 => ((rivuletref06_Put.f t230 t231 t232 t233 t234).bind fun t243 => (if t242.toList = t243.toList then ((event_Show.fT t230 t231 t232 t233 t234).bind fun t244 => ((rivuletref06_Show.f k t230 t231 t232 t233 t234).bind fun t245 => (if t244.toList = t245.toList then ((event_Age.f t230 t231 t232 t233 t234 a2).bind fun bt246 => ((rivuletref06_Age.f t230 t231 t232 t233 t234 a2).bind fun bt251 => (if (bt246.1 == bt251.1 && (bt246.2.1 == bt251.2.1 && (bt246.2.2.1.toList == bt251.2.2.1.toList && (bt246.2.2.2.1.toList == bt251.2.2.2.1.toList && (bt246.2.2.2.2 == bt251.2.2.2.2))))) = true then ((event_Same.f t230 t231 t232 t233 t234 t235 t236 t237 t238 t239).bind fun t256 => ((rivuletref06_Same.f t230 t231 t232 t233 t234 t235 t236 t237 t238 t239).bind fun t257 => (if (t256 == t257) = true then ((rivuletlaw06_fixed.f k).bind fun t258 => (some t258)) else (some false)))) else (some false)))) else (some false)))) else (some false)))) else (some false)))) = some r := H
  have A5 := Aside0.mk A50
  clear A50
  replace H := Option.bind_eq_some_iff.mp H
  obtain ⟨t240, A60, H⟩ := H
  replace H : ((rivuletref06_Right.f t230 t231 t232 t233 t234).bind fun t241 => (if (t240 == t241) = true then ((event_Put.f t230 t231 t232 t233 t234).bind fun t242 => ((rivuletref06_Put.f t230 t231 t232 t233 t234).bind fun t243 => (if t242.toList = t243.toList then ((event_Show.fT t230 t231 t232 t233 t234).bind fun t244 => ((rivuletref06_Show.f k t230 t231 t232 t233 t234).bind fun t245 => (if t244.toList = t245.toList then ((event_Age.f t230 t231 t232 t233 t234 a2).bind fun bt246 => ((rivuletref06_Age.f t230 t231 t232 t233 t234 a2).bind fun bt251 => (if (bt246.1 == bt251.1 && (bt246.2.1 == bt251.2.1 && (bt246.2.2.1.toList == bt251.2.2.1.toList && (bt246.2.2.2.1.toList == bt251.2.2.2.1.toList && (bt246.2.2.2.2 == bt251.2.2.2.2))))) = true then ((event_Same.f t230 t231 t232 t233 t234 t235 t236 t237 t238 t239).bind fun t256 => ((rivuletref06_Same.f t230 t231 t232 t233 t234 t235 t236 t237 t238 t239).bind fun t257 => (if (t256 == t257) = true then ((rivuletlaw06_fixed.f k).bind fun t258 => (some t258)) else (some false)))) else (some false)))) else (some false)))) else (some false)))) else (some false))) = some r := H
  have A6 := Aside0.mk A60
  clear A60
  replace H := Option.bind_eq_some_iff.mp H
  obtain ⟨t241, A70, H⟩ := H
  replace H : (if (t240 == t241) = true then ((event_Put.f t230 t231 t232 t233 t234).bind fun t242 => ((rivuletref06_Put.f t230 t231 t232 t233 t234).bind fun t243 => (if t242.toList = t243.toList then ((event_Show.fT t230 t231 t232 t233 t234).bind fun t244 => ((rivuletref06_Show.f k t230 t231 t232 t233 t234).bind fun t245 => (if t244.toList = t245.toList then ((event_Age.f t230 t231 t232 t233 t234 a2).bind fun bt246 => ((rivuletref06_Age.f t230 t231 t232 t233 t234 a2).bind fun bt251 => (if (bt246.1 == bt251.1 && (bt246.2.1 == bt251.2.1 && (bt246.2.2.1.toList == bt251.2.2.1.toList && (bt246.2.2.2.1.toList == bt251.2.2.2.1.toList && (bt246.2.2.2.2 == bt251.2.2.2.2))))) = true then ((event_Same.f t230 t231 t232 t233 t234 t235 t236 t237 t238 t239).bind fun t256 => ((rivuletref06_Same.f t230 t231 t232 t233 t234 t235 t236 t237 t238 t239).bind fun t257 => (if (t256 == t257) = true then ((rivuletlaw06_fixed.f k).bind fun t258 => (some t258)) else (some false)))) else (some false)))) else (some false)))) else (some false)))) else (some false)) = some r := H
  have A7 := Aside0.mk A70
  clear A70
  by_cases c8 : (t240 == t241) = true
  · rw [if_pos c8] at H
    have c8b0 : (t240 == t241) = true := c8
    (try (have c8b1 : decide (t240 = t241) = true := by simpa using c8))
    (try (have c8b2 : (t240 == t241) = true := by simpa using c8))
    clear c8
    replace H := Option.bind_eq_some_iff.mp H
    obtain ⟨t242, A90, H⟩ := H
    replace H : ((rivuletref06_Put.f t230 t231 t232 t233 t234).bind fun t243 => (if t242.toList = t243.toList then ((event_Show.fT t230 t231 t232 t233 t234).bind fun t244 => ((rivuletref06_Show.f k t230 t231 t232 t233 t234).bind fun t245 => (if t244.toList = t245.toList then ((event_Age.f t230 t231 t232 t233 t234 a2).bind fun bt246 => ((rivuletref06_Age.f t230 t231 t232 t233 t234 a2).bind fun bt251 => (if (bt246.1 == bt251.1 && (bt246.2.1 == bt251.2.1 && (bt246.2.2.1.toList == bt251.2.2.1.toList && (bt246.2.2.2.1.toList == bt251.2.2.2.1.toList && (bt246.2.2.2.2 == bt251.2.2.2.2))))) = true then ((event_Same.f t230 t231 t232 t233 t234 t235 t236 t237 t238 t239).bind fun t256 => ((rivuletref06_Same.f t230 t231 t232 t233 t234 t235 t236 t237 t238 t239).bind fun t257 => (if (t256 == t257) = true then ((rivuletlaw06_fixed.f k).bind fun t258 => (some t258)) else (some false)))) else (some false)))) else (some false)))) else (some false))) = some r := H
    have A9 := Aside0.mk A90
    clear A90
    replace H := Option.bind_eq_some_iff.mp H
    obtain ⟨t243, A100, H⟩ := H
    replace H : (if t242.toList = t243.toList then ((event_Show.fT t230 t231 t232 t233 t234).bind fun t244 => ((rivuletref06_Show.f k t230 t231 t232 t233 t234).bind fun t245 => (if t244.toList = t245.toList then ((event_Age.f t230 t231 t232 t233 t234 a2).bind fun bt246 => ((rivuletref06_Age.f t230 t231 t232 t233 t234 a2).bind fun bt251 => (if (bt246.1 == bt251.1 && (bt246.2.1 == bt251.2.1 && (bt246.2.2.1.toList == bt251.2.2.1.toList && (bt246.2.2.2.1.toList == bt251.2.2.2.1.toList && (bt246.2.2.2.2 == bt251.2.2.2.2))))) = true then ((event_Same.f t230 t231 t232 t233 t234 t235 t236 t237 t238 t239).bind fun t256 => ((rivuletref06_Same.f t230 t231 t232 t233 t234 t235 t236 t237 t238 t239).bind fun t257 => (if (t256 == t257) = true then ((rivuletlaw06_fixed.f k).bind fun t258 => (some t258)) else (some false)))) else (some false)))) else (some false)))) else (some false)) = some r := H
    have A10 := Aside0.mk A100
    clear A100
    by_cases c11 : t242.toList = t243.toList
    · rw [if_pos c11] at H
      have c11b0 : (t242.toList == t243.toList) = true := beq_iff_eq.mpr c11
      have c11b1 : (t242.toList != t243.toList) = false := bne_eq_false_iff_eq.mpr c11
      clear c11
      replace H := Option.bind_eq_some_iff.mp H
      obtain ⟨t244, A120, H⟩ := H
      replace H : ((rivuletref06_Show.f k t230 t231 t232 t233 t234).bind fun t245 => (if t244.toList = t245.toList then ((event_Age.f t230 t231 t232 t233 t234 a2).bind fun bt246 => ((rivuletref06_Age.f t230 t231 t232 t233 t234 a2).bind fun bt251 => (if (bt246.1 == bt251.1 && (bt246.2.1 == bt251.2.1 && (bt246.2.2.1.toList == bt251.2.2.1.toList && (bt246.2.2.2.1.toList == bt251.2.2.2.1.toList && (bt246.2.2.2.2 == bt251.2.2.2.2))))) = true then ((event_Same.f t230 t231 t232 t233 t234 t235 t236 t237 t238 t239).bind fun t256 => ((rivuletref06_Same.f t230 t231 t232 t233 t234 t235 t236 t237 t238 t239).bind fun t257 => (if (t256 == t257) = true then ((rivuletlaw06_fixed.f k).bind fun t258 => (some t258)) else (some false)))) else (some false)))) else (some false))) = some r := H
      have A12 := Aside0.mk A120
      clear A120
      replace H := Option.bind_eq_some_iff.mp H
      obtain ⟨t245, A130, H⟩ := H
      replace H : (if t244.toList = t245.toList then ((event_Age.f t230 t231 t232 t233 t234 a2).bind fun bt246 => ((rivuletref06_Age.f t230 t231 t232 t233 t234 a2).bind fun bt251 => (if (bt246.1 == bt251.1 && (bt246.2.1 == bt251.2.1 && (bt246.2.2.1.toList == bt251.2.2.1.toList && (bt246.2.2.2.1.toList == bt251.2.2.2.1.toList && (bt246.2.2.2.2 == bt251.2.2.2.2))))) = true then ((event_Same.f t230 t231 t232 t233 t234 t235 t236 t237 t238 t239).bind fun t256 => ((rivuletref06_Same.f t230 t231 t232 t233 t234 t235 t236 t237 t238 t239).bind fun t257 => (if (t256 == t257) = true then ((rivuletlaw06_fixed.f k).bind fun t258 => (some t258)) else (some false)))) else (some false)))) else (some false)) = some r := H
      have A13 := Aside0.mk A130
      clear A130
      by_cases c14 : t244.toList = t245.toList
      · rw [if_pos c14] at H
        have c14b0 : (t244.toList == t245.toList) = true := beq_iff_eq.mpr c14
        have c14b1 : (t244.toList != t245.toList) = false := bne_eq_false_iff_eq.mpr c14
        clear c14
        replace H := Option.bind_eq_some_iff.mp H
        obtain ⟨⟨t246, t247, t248, t249, t250⟩, A150, H⟩ := H
        replace H : ((rivuletref06_Age.f t230 t231 t232 t233 t234 a2).bind fun bt251 => (if (t246 == bt251.1 && (t247 == bt251.2.1 && (t248.toList == bt251.2.2.1.toList && (t249.toList == bt251.2.2.2.1.toList && (t250 == bt251.2.2.2.2))))) = true then ((event_Same.f t230 t231 t232 t233 t234 t235 t236 t237 t238 t239).bind fun t256 => ((rivuletref06_Same.f t230 t231 t232 t233 t234 t235 t236 t237 t238 t239).bind fun t257 => (if (t256 == t257) = true then ((rivuletlaw06_fixed.f k).bind fun t258 => (some t258)) else (some false)))) else (some false))) = some r := H
        have A15 := Aside0.mk A150
        clear A150
        replace H := Option.bind_eq_some_iff.mp H
        obtain ⟨⟨t251, t252, t253, t254, t255⟩, A160, H⟩ := H
        replace H : (if (t246 == t251 && (t247 == t252 && (t248.toList == t253.toList && (t249.toList == t254.toList && (t250 == t255))))) = true then ((event_Same.f t230 t231 t232 t233 t234 t235 t236 t237 t238 t239).bind fun t256 => ((rivuletref06_Same.f t230 t231 t232 t233 t234 t235 t236 t237 t238 t239).bind fun t257 => (if (t256 == t257) = true then ((rivuletlaw06_fixed.f k).bind fun t258 => (some t258)) else (some false)))) else (some false)) = some r := H
        have A16 := Aside0.mk A160
        clear A160
        by_cases c17 : (t246 == t251 && (t247 == t252 && (t248.toList == t253.toList && (t249.toList == t254.toList && (t250 == t255))))) = true
        · rw [if_pos c17] at H
          have c17b0 : (t246 == t251 && (t247 == t252 && (t248.toList == t253.toList && (t249.toList == t254.toList && (t250 == t255))))) = true := c17
          (try (have c17b1 : decide (t246 = t251 && (t247 == t252 && (t248.toList == t253.toList && (t249.toList == t254.toList && (t250 == t255))))) = true := by simpa using c17))
          (try (have c17b2 : (t246 == t251 && (t247 == t252 && (t248.toList == t253.toList && (t249.toList == t254.toList && (t250 == t255))))) = true := by simpa using c17))
          clear c17
          replace H := Option.bind_eq_some_iff.mp H
          obtain ⟨t256, A180, H⟩ := H
          replace H : ((rivuletref06_Same.f t230 t231 t232 t233 t234 t235 t236 t237 t238 t239).bind fun t257 => (if (t256 == t257) = true then ((rivuletlaw06_fixed.f k).bind fun t258 => (some t258)) else (some false))) = some r := H
          have A18 := Aside0.mk A180
          clear A180
          replace H := Option.bind_eq_some_iff.mp H
          obtain ⟨t257, A190, H⟩ := H
          replace H : (if (t256 == t257) = true then ((rivuletlaw06_fixed.f k).bind fun t258 => (some t258)) else (some false)) = some r := H
          have A19 := Aside0.mk A190
          clear A190
          by_cases c20 : (t256 == t257) = true
          · rw [if_pos c20] at H
            have c20b0 : (t256 == t257) = true := c20
            (try (have c20b1 : decide (t256 = t257) = true := by simpa using c20))
            (try (have c20b2 : (t256 == t257) = true := by simpa using c20))
            clear c20
            replace H := Option.bind_eq_some_iff.mp H
            obtain ⟨t258, A210, H⟩ := H
            replace H : (some t258) = some r := H
            have A21 := Aside0.mk A210
            clear A210
            obtain rfl := Option.some.inj H
            go_enter Tryd.func3, Tryd.ntmps3
            try go_wp2_with (first | ((with_reducible refine gate_dst (N := 3) rfl ?_); refine box_event ?hg (N := 3) ?hd (cs := #[.int .i64 a0_0, .int .i64 a0_1, .string a0_2, .string a0_3, .int .i64 a0_4]) (t := 23) ?hr ?_; (case hd => rfl); (case hg => rfl); (case hr => first | (go_simp; done) | (go_simp; rfl)); intro gb228 hg w22 hbox hb; have n0_ := Aside0.mk (below_step (by repeat (first | (with_reducible first | exact HB.out | apply below_alloc | apply pw_below_drewN | apply below_drew1) | exact HB.out)) hb); have n1_ := Aside0.mk (hbox); have n2_ := Aside0.mk ((by rw [hg]; exact (below_size (by repeat (first | (with_reducible first | exact HB.out | apply below_alloc | apply pw_below_drewN | apply below_drew1) | exact HB.out))) : w.heap.size ≤ gb228)); have n3_ := Aside0.mk ((by rw [hg]; exact (below_size (by repeat (first | (with_reducible first | exact HB.out | apply below_alloc | apply pw_below_drewN | apply below_drew1) | exact HB.out))) : w.heap.size ≤ gb228)); clear HB; have HB := n0_; have BK228 := n1_; have GW228 := n2_; have GE228 := n3_; clear n0_ n1_ n2_ n3_; clear hb hbox hg) | ((with_reducible refine gate_dst (N := 4) rfl ?_); refine box_event ?hg (N := 4) ?hd (cs := #[.int .i64 a1_0, .int .i64 a1_1, .string a1_2, .string a1_3, .int .i64 a1_4]) (t := 23) ?hr ?_; (case hd => rfl); (case hg => rfl); (case hr => first | (go_simp; done) | (go_simp; rfl)); intro gb229 hg w23 hbox hb; have n0_ := Aside0.mk (blk_below (g := gb228) (o := .cells #[.int .i64 a0_0, .int .i64 a0_1, .string a0_2, .string a0_3, .int .i64 a0_4] 23 (0, 0)) (by (with_reducible repeat (first | refine blk_drewN ?_ _ | refine blk_drew ?_ | refine blk_alloc ?_ _)); exact BK228.out) hb); have n1_ := Aside0.mk (below_step (by repeat (first | (with_reducible first | exact HB.out | apply below_alloc | apply pw_below_drewN | apply below_drew1 | refine below_set ?_ GE228.out) | exact HB.out)) hb); have n2_ := Aside0.mk (hbox); have n3_ := Aside0.mk ((by rw [hg]; exact (below_size (by repeat (first | (with_reducible first | exact HB.out | apply below_alloc | apply pw_below_drewN | apply below_drew1 | refine below_set ?_ GE228.out) | exact HB.out))) : w.heap.size ≤ gb229)); have n4_ := Aside0.mk ((by rw [hg]; exact (below_size (by repeat (first | (with_reducible first | exact HB.out | apply below_alloc | apply pw_below_drewN | apply below_drew1 | refine below_set ?_ GE228.out) | exact HB.out))) : w.heap.size ≤ gb229)); have n5_ := Aside0.mk ((by rw [hg]; exact Nat.ne_of_lt (blk_lt (g := gb228) (o := .cells #[.int .i64 a0_0, .int .i64 a0_1, .string a0_2, .string a0_3, .int .i64 a0_4] 23 (0, 0)) (by (with_reducible repeat (first | refine blk_drewN ?_ _ | refine blk_drew ?_ | refine blk_alloc ?_ _)); exact BK228.out)) : gb228 ≠ gb229)); have n6_ := Aside0.mk ((by rw [hg]; exact Nat.ne_of_gt (blk_lt (g := gb228) (o := .cells #[.int .i64 a0_0, .int .i64 a0_1, .string a0_2, .string a0_3, .int .i64 a0_4] 23 (0, 0)) (by (with_reducible repeat (first | refine blk_drewN ?_ _ | refine blk_drew ?_ | refine blk_alloc ?_ _)); exact BK228.out)) : gb229 ≠ gb228)); clear BK228; clear HB; have BK228 := n0_; have HB := n1_; have BK229 := n2_; have GW229 := n3_; have GE229 := n4_; have NB228_229 := n5_; have NB229_228 := n6_; clear n0_ n1_ n2_ n3_ n4_ n5_ n6_; clear hb hbox hg; have hnb24 := NB228_229.out; have hnc24 := NB229_228.out; have hcz25_0 : w23.cell? ⟨gb228, 0, none⟩ = some (.int .i64 a0_0) := (blk_cell BK228.out 0).trans rfl; have hcz25_1 : w23.cell? ⟨gb228, 1, none⟩ = some (.int .i64 a0_1) := (blk_cell BK228.out 1).trans rfl; have hcz25_2 : w23.cell? ⟨gb228, 2, none⟩ = some (.string a0_2) := (blk_cell BK228.out 2).trans rfl; have hcz25_3 : w23.cell? ⟨gb228, 3, none⟩ = some (.string a0_3) := (blk_cell BK228.out 3).trans rfl; have hcz25_4 : w23.cell? ⟨gb228, 4, none⟩ = some (.int .i64 a0_4) := (blk_cell BK228.out 4).trans rfl; have hfz25_0 := blk_frozen BK228.out 0; have hfz25_1 := blk_frozen BK228.out 1; have hfz25_2 := blk_frozen BK228.out 2; have hfz25_3 := blk_frozen BK228.out 3; have hfz25_4 := blk_frozen BK228.out 4) | ((with_reducible refine gate_callee (f := 10) rfl ?_); refine goesL_ (some 8) rfl rfl Tryd.func10 (by kernel_rfl) rfl #[.agg #[.int .i64 a0_0, .int .i64 a0_1, .string a0_2, .string a0_3, .int .i64 a0_4]] rfl (by (try simp only [List.map_toArray, List.map_cons, List.map_nil]); first | done | rfl | (simp only [List.length_drop, List.length_take]; rfl)) ?_; (with_reducible refine (rivuletlaw06_cut.calls a0_0 a0_1 a0_2 a0_3 a0_4 t230 t231 t232 t233 t234 _ A4.out).mono ?_); rintro e w26 ⟨rfl, hb⟩; refine ⟨_, rfl, ?_⟩; have n0_ := Aside0.mk (blk_below (g := gb228) (o := .cells #[.int .i64 a0_0, .int .i64 a0_1, .string a0_2, .string a0_3, .int .i64 a0_4] 23 (0, 0)) (by (with_reducible repeat (first | refine blk_drewN ?_ _ | refine blk_drew ?_ | refine blk_alloc ?_ _)); exact BK228.out) hb); have n1_ := Aside0.mk (blk_below (g := gb229) (o := .cells #[.int .i64 a1_0, .int .i64 a1_1, .string a1_2, .string a1_3, .int .i64 a1_4] 23 (0, 0)) (by (with_reducible repeat (first | refine blk_drewN ?_ _ | refine blk_drew ?_ | refine blk_alloc ?_ _)); exact BK229.out) hb); have n2_ := Aside0.mk (below_step (by repeat (first | (with_reducible first | exact HB.out | apply below_alloc | apply pw_below_drewN | apply below_drew1 | refine below_set ?_ GE228.out | refine below_set ?_ GE229.out) | exact HB.out)) hb); clear BK228; clear BK229; clear HB; have BK228 := n0_; have BK229 := n1_; have HB := n2_; clear n0_ n1_ n2_; (try clear hb); (try clear hb2); (try clear hk); (try clear hi); have hcz27_0 : w26.cell? ⟨gb228, 0, none⟩ = some (.int .i64 a0_0) := (blk_cell BK228.out 0).trans rfl; have hcz27_1 : w26.cell? ⟨gb228, 1, none⟩ = some (.int .i64 a0_1) := (blk_cell BK228.out 1).trans rfl; have hcz27_2 : w26.cell? ⟨gb228, 2, none⟩ = some (.string a0_2) := (blk_cell BK228.out 2).trans rfl; have hcz27_3 : w26.cell? ⟨gb228, 3, none⟩ = some (.string a0_3) := (blk_cell BK228.out 3).trans rfl; have hcz27_4 : w26.cell? ⟨gb228, 4, none⟩ = some (.int .i64 a0_4) := (blk_cell BK228.out 4).trans rfl; have hfz27_0 := blk_frozen BK228.out 0; have hfz27_1 := blk_frozen BK228.out 1; have hfz27_2 := blk_frozen BK228.out 2; have hfz27_3 := blk_frozen BK228.out 3; have hfz27_4 := blk_frozen BK228.out 4; have hcz28_0 : w26.cell? ⟨gb229, 0, none⟩ = some (.int .i64 a1_0) := (blk_cell BK229.out 0).trans rfl; have hcz28_1 : w26.cell? ⟨gb229, 1, none⟩ = some (.int .i64 a1_1) := (blk_cell BK229.out 1).trans rfl; have hcz28_2 : w26.cell? ⟨gb229, 2, none⟩ = some (.string a1_2) := (blk_cell BK229.out 2).trans rfl; have hcz28_3 : w26.cell? ⟨gb229, 3, none⟩ = some (.string a1_3) := (blk_cell BK229.out 3).trans rfl; have hcz28_4 : w26.cell? ⟨gb229, 4, none⟩ = some (.int .i64 a1_4) := (blk_cell BK229.out 4).trans rfl; have hfz28_0 := blk_frozen BK229.out 0; have hfz28_1 := blk_frozen BK229.out 1; have hfz28_2 := blk_frozen BK229.out 2; have hfz28_3 := blk_frozen BK229.out 3; have hfz28_4 := blk_frozen BK229.out 4) | ((with_reducible refine gate_callee (f := 10) rfl ?_); refine goesL_ (some 10) rfl rfl Tryd.func10 (by kernel_rfl) rfl #[.agg #[.int .i64 a1_0, .int .i64 a1_1, .string a1_2, .string a1_3, .int .i64 a1_4]] rfl (by (try simp only [List.map_toArray, List.map_cons, List.map_nil]); first | done | rfl | (simp only [List.length_drop, List.length_take]; rfl)) ?_; (with_reducible refine (rivuletlaw06_cut.calls a1_0 a1_1 a1_2 a1_3 a1_4 t235 t236 t237 t238 t239 _ A5.out).mono ?_); rintro e w29 ⟨rfl, hb⟩; refine ⟨_, rfl, ?_⟩; have n0_ := Aside0.mk (blk_below (g := gb228) (o := .cells #[.int .i64 t230, .int .i64 t231, .string t232, .string t233, .int .i64 t234] 23 (0, 0)) (by (with_reducible repeat (first | refine blk_drewN ?_ _ | refine blk_drew ?_ | refine blk_alloc ?_ _)); refine blk_put (cs := #[.int .i64 t230, .int .i64 t231, .string t232, .string t233, .int .i64 a0_4]) ?_ 4 _ rfl; (with_reducible repeat (first | refine blk_drewN ?_ _ | refine blk_drew ?_ | refine blk_alloc ?_ _)); refine blk_put (cs := #[.int .i64 t230, .int .i64 t231, .string t232, .string a0_3, .int .i64 a0_4]) ?_ 3 _ rfl; (with_reducible repeat (first | refine blk_drewN ?_ _ | refine blk_drew ?_ | refine blk_alloc ?_ _)); refine blk_put (cs := #[.int .i64 t230, .int .i64 t231, .string a0_2, .string a0_3, .int .i64 a0_4]) ?_ 2 _ rfl; (with_reducible repeat (first | refine blk_drewN ?_ _ | refine blk_drew ?_ | refine blk_alloc ?_ _)); refine blk_put (cs := #[.int .i64 t230, .int .i64 a0_1, .string a0_2, .string a0_3, .int .i64 a0_4]) ?_ 1 _ rfl; (with_reducible repeat (first | refine blk_drewN ?_ _ | refine blk_drew ?_ | refine blk_alloc ?_ _)); refine blk_put (cs := #[.int .i64 a0_0, .int .i64 a0_1, .string a0_2, .string a0_3, .int .i64 a0_4]) ?_ 0 _ rfl; (with_reducible repeat (first | refine blk_drewN ?_ _ | refine blk_drew ?_ | refine blk_alloc ?_ _)); exact BK228.out) hb); have n1_ := Aside0.mk (blk_below (g := gb229) (o := .cells #[.int .i64 a1_0, .int .i64 a1_1, .string a1_2, .string a1_3, .int .i64 a1_4] 23 (0, 0)) (by (with_reducible repeat (first | refine blk_drewN ?_ _ | refine blk_drew ?_ | refine blk_alloc ?_ _)); refine blk_far ?_ NB229_228.out _; (with_reducible repeat (first | refine blk_drewN ?_ _ | refine blk_drew ?_ | refine blk_alloc ?_ _)); refine blk_far ?_ NB229_228.out _; (with_reducible repeat (first | refine blk_drewN ?_ _ | refine blk_drew ?_ | refine blk_alloc ?_ _)); refine blk_far ?_ NB229_228.out _; (with_reducible repeat (first | refine blk_drewN ?_ _ | refine blk_drew ?_ | refine blk_alloc ?_ _)); refine blk_far ?_ NB229_228.out _; (with_reducible repeat (first | refine blk_drewN ?_ _ | refine blk_drew ?_ | refine blk_alloc ?_ _)); refine blk_far ?_ NB229_228.out _; (with_reducible repeat (first | refine blk_drewN ?_ _ | refine blk_drew ?_ | refine blk_alloc ?_ _)); exact BK229.out) hb); have n2_ := Aside0.mk (below_step (by repeat (first | (with_reducible first | exact HB.out | apply below_alloc | apply pw_below_drewN | apply below_drew1 | refine below_set ?_ GE228.out | refine below_set ?_ GE229.out) | exact HB.out)) hb); clear BK228; clear BK229; clear HB; have BK228 := n0_; have BK229 := n1_; have HB := n2_; clear n0_ n1_ n2_; (try clear hb); (try clear hb2); (try clear hk); (try clear hi); have hcz30_0 : w29.cell? ⟨gb229, 0, none⟩ = some (.int .i64 a1_0) := (blk_cell BK229.out 0).trans rfl; have hcz30_1 : w29.cell? ⟨gb229, 1, none⟩ = some (.int .i64 a1_1) := (blk_cell BK229.out 1).trans rfl; have hcz30_2 : w29.cell? ⟨gb229, 2, none⟩ = some (.string a1_2) := (blk_cell BK229.out 2).trans rfl; have hcz30_3 : w29.cell? ⟨gb229, 3, none⟩ = some (.string a1_3) := (blk_cell BK229.out 3).trans rfl; have hcz30_4 : w29.cell? ⟨gb229, 4, none⟩ = some (.int .i64 a1_4) := (blk_cell BK229.out 4).trans rfl; have hfz30_0 := blk_frozen BK229.out 0; have hfz30_1 := blk_frozen BK229.out 1; have hfz30_2 := blk_frozen BK229.out 2; have hfz30_3 := blk_frozen BK229.out 3; have hfz30_4 := blk_frozen BK229.out 4))
            have n0_ : Aside0 ((((((w29.setCell ⟨gb229, 0, none⟩ (.int .i64 t235)).setCell ⟨gb229, 1, none⟩ (.int .i64 t236)).setCell ⟨gb229, 2, none⟩ (.string t237)).setCell ⟨gb229, 3, none⟩ (.string t238)).setCell ⟨gb229, 4, none⟩ (.int .i64 t239)).heap[gb228]? = some (.cells #[.int .i64 t230, .int .i64 t231, .string t232, .string t233, .int .i64 t234] 23 (0, 0))) := ⟨by (with_reducible repeat (first | refine blk_drewN ?_ _ | refine blk_drew ?_ | refine blk_alloc ?_ _)); refine blk_far ?_ NB228_229.out _; (with_reducible repeat (first | refine blk_drewN ?_ _ | refine blk_drew ?_ | refine blk_alloc ?_ _)); refine blk_far ?_ NB228_229.out _; (with_reducible repeat (first | refine blk_drewN ?_ _ | refine blk_drew ?_ | refine blk_alloc ?_ _)); refine blk_far ?_ NB228_229.out _; (with_reducible repeat (first | refine blk_drewN ?_ _ | refine blk_drew ?_ | refine blk_alloc ?_ _)); refine blk_far ?_ NB228_229.out _; (with_reducible repeat (first | refine blk_drewN ?_ _ | refine blk_drew ?_ | refine blk_alloc ?_ _)); refine blk_far ?_ NB228_229.out _; (with_reducible repeat (first | refine blk_drewN ?_ _ | refine blk_drew ?_ | refine blk_alloc ?_ _)); exact BK228.out⟩
            have n1_ : Aside0 ((((((w29.setCell ⟨gb229, 0, none⟩ (.int .i64 t235)).setCell ⟨gb229, 1, none⟩ (.int .i64 t236)).setCell ⟨gb229, 2, none⟩ (.string t237)).setCell ⟨gb229, 3, none⟩ (.string t238)).setCell ⟨gb229, 4, none⟩ (.int .i64 t239)).heap[gb229]? = some (.cells #[.int .i64 t235, .int .i64 t236, .string t237, .string t238, .int .i64 t239] 23 (0, 0))) := ⟨by (with_reducible repeat (first | refine blk_drewN ?_ _ | refine blk_drew ?_ | refine blk_alloc ?_ _)); refine blk_put (cs := #[.int .i64 t235, .int .i64 t236, .string t237, .string t238, .int .i64 a1_4]) ?_ 4 _ rfl; (with_reducible repeat (first | refine blk_drewN ?_ _ | refine blk_drew ?_ | refine blk_alloc ?_ _)); refine blk_put (cs := #[.int .i64 t235, .int .i64 t236, .string t237, .string a1_3, .int .i64 a1_4]) ?_ 3 _ rfl; (with_reducible repeat (first | refine blk_drewN ?_ _ | refine blk_drew ?_ | refine blk_alloc ?_ _)); refine blk_put (cs := #[.int .i64 t235, .int .i64 t236, .string a1_2, .string a1_3, .int .i64 a1_4]) ?_ 2 _ rfl; (with_reducible repeat (first | refine blk_drewN ?_ _ | refine blk_drew ?_ | refine blk_alloc ?_ _)); refine blk_put (cs := #[.int .i64 t235, .int .i64 a1_1, .string a1_2, .string a1_3, .int .i64 a1_4]) ?_ 1 _ rfl; (with_reducible repeat (first | refine blk_drewN ?_ _ | refine blk_drew ?_ | refine blk_alloc ?_ _)); refine blk_put (cs := #[.int .i64 a1_0, .int .i64 a1_1, .string a1_2, .string a1_3, .int .i64 a1_4]) ?_ 0 _ rfl; (with_reducible repeat (first | refine blk_drewN ?_ _ | refine blk_drew ?_ | refine blk_alloc ?_ _)); exact BK229.out⟩
            have n2_ : Aside0 (Below w.heap.size w (((((w29.setCell ⟨gb229, 0, none⟩ (.int .i64 t235)).setCell ⟨gb229, 1, none⟩ (.int .i64 t236)).setCell ⟨gb229, 2, none⟩ (.string t237)).setCell ⟨gb229, 3, none⟩ (.string t238)).setCell ⟨gb229, 4, none⟩ (.int .i64 t239))) := ⟨by repeat (first | (with_reducible first | exact HB.out | apply below_alloc | apply pw_below_drewN | apply below_drew1 | refine below_set ?_ GE228.out | refine below_set ?_ GE229.out) | exact HB.out)⟩
            (try clear BK228)
            (try clear BK229)
            (try clear HB)
            generalize (((((w29.setCell ⟨gb229, 0, none⟩ (.int .i64 t235)).setCell ⟨gb229, 1, none⟩ (.int .i64 t236)).setCell ⟨gb229, 2, none⟩ (.string t237)).setCell ⟨gb229, 3, none⟩ (.string t238)).setCell ⟨gb229, 4, none⟩ (.int .i64 t239)) = w31 at n0_ n1_ n2_ ⊢
            have BK228 := n0_
            have BK229 := n1_
            have HB := n2_
            clear n0_ n1_ n2_
            have n0_ := Aside0.mk (blk_drew BK228.out)
            have n1_ := Aside0.mk (blk_drew BK229.out)
            have n2_ := Aside0.mk (below_drew1 HB.out)
            clear BK228
            clear BK229
            clear HB
            have BK228 := n0_
            have BK229 := n1_
            have HB := n2_
            clear n0_ n1_ n2_
            refine start_ (n := 41) (S := fun w' => w'.cell? ⟨gb228, 0, none⟩ = some (.int .i64 t230) ∧ w'.cell? ⟨gb228, 1, none⟩ = some (.int .i64 t231) ∧ w'.cell? ⟨gb228, 2, none⟩ = some (.string t232) ∧ w'.cell? ⟨gb228, 3, none⟩ = some (.string t233) ∧ w'.cell? ⟨gb228, 4, none⟩ = some (.int .i64 t234) ∧ w'.cell? ⟨gb229, 0, none⟩ = some (.int .i64 t235) ∧ w'.cell? ⟨gb229, 1, none⟩ = some (.int .i64 t236) ∧ w'.cell? ⟨gb229, 2, none⟩ = some (.string t237) ∧ w'.cell? ⟨gb229, 3, none⟩ = some (.string t238) ∧ w'.cell? ⟨gb229, 4, none⟩ = some (.int .i64 t239)) (ds := []) #[false, false, false, false, false, false, false, false, false, false, false, false, false, false, false, false, false, false, false, false, false, false, false, false, false, false, false, false, false, false, false, false, false, false, false, false, false, false, false, false, false] (by kernel_rfl) rfl rfl ⟨(blk_cell BK228.out 0).trans rfl, (blk_cell BK228.out 1).trans rfl, (blk_cell BK228.out 2).trans rfl, (blk_cell BK228.out 3).trans rfl, (blk_cell BK228.out 4).trans rfl, (blk_cell BK229.out 0).trans rfl, (blk_cell BK229.out 1).trans rfl, (blk_cell BK229.out 2).trans rfl, (blk_cell BK229.out 3).trans rfl, (blk_cell BK229.out 4).trans rfl⟩ (fun hHeld => ?_); refine with_tabW rivuletlaw06_EventPuts.tab3 rivuletlaw06_EventPuts.bits3 (fun HT_ HW_ => ?_)
            generalize w31.drew = w32 at BK228 BK229 HB hHeld ⊢
            refine take_ (i := 0) (N := some 11) (v := ?_) (a' := ?_) #[true, false, false, false, false, false, false, false, false, false, false, false, false, false, false, false, false, false, false, false, false, false, false, false, false, false, false, false, false, false, false, false, false, false, false, false, false, false, false, false, false] rfl rfl (take_ofW HT_.out HW_.out (by kernel_rfl)) (fun _ _ _ h => h) (Or.inl ⟨by rfl, ?_⟩) hHeld ?_ ?_
            rotate_left
            · rintro w' ⟨s0, s1, s2, s3, s4, s5, s6, s7, s8, s9⟩
              go_simp
              with_reducible rfl
            rotate_left
            · simp only [Act.put, List.setIfInBounds_toArray, List.set_cons_zero, List.set_cons_succ, i64_w, i32_w]
              rfl
            refine take_ (i := 2) (N := some 13) (v := ?_) (a' := ?_) #[true, false, true, false, false, false, false, false, false, false, false, false, false, false, false, false, false, false, false, false, false, false, false, false, false, false, false, false, false, false, false, false, false, false, false, false, false, false, false, false, false] rfl rfl (take_ofW HT_.out HW_.out (by kernel_rfl)) (fun _ _ _ h => h) (Or.inl ⟨by rfl, ?_⟩) hHeld ?_ ?_
            rotate_left
            · rintro w' ⟨s0, s1, s2, s3, s4, s5, s6, s7, s8, s9⟩
              go_simp
              with_reducible rfl
            rotate_left
            · simp only [Act.put, List.setIfInBounds_toArray, List.set_cons_zero, List.set_cons_succ, i64_w, i32_w]
              rfl
            refine one_ (i := 1) (N := some 12) #[true, true, true, false, false, false, false, false, false, false, false, false, false, false, false, false, false, false, false, false, false, false, false, false, false, false, false, false, false, false, false, false, false, false, false, false, false, false, false, false, false] rfl rfl (one_of HT_.out (by kernel_rfl)) (by decide) (fun K hK => ?_)
            refine goes_ Tryd.func11 (by kernel_rfl) rfl #[.agg #[.int .i64 t230, .int .i64 t231, .string t232, .string t233, .int .i64 t234]] (by rfl) rfl rfl (by (try simp only [List.map_toArray, List.map_cons, List.map_nil]); first | done | rfl | (simp only [List.length_drop, List.length_take]; rfl)) ?_
            with_reducible refine (event_Right.calls t230 t231 t232 t233 t234 t240 _ A6.out).mono ?_
            rintro e w33 ⟨rfl, hb⟩
            refine ⟨_, rfl, ?_⟩
            have n0_ := Aside0.mk (blk_below (g := gb228) (o := .cells #[.int .i64 t230, .int .i64 t231, .string t232, .string t233, .int .i64 t234] 23 (0, 0)) (by (with_reducible repeat (first | refine blk_drewN ?_ _ | refine blk_drew ?_ | refine blk_alloc ?_ _)); exact BK228.out) hb)
            have n1_ := Aside0.mk (blk_below (g := gb229) (o := .cells #[.int .i64 t235, .int .i64 t236, .string t237, .string t238, .int .i64 t239] 23 (0, 0)) (by (with_reducible repeat (first | refine blk_drewN ?_ _ | refine blk_drew ?_ | refine blk_alloc ?_ _)); exact BK229.out) hb)
            have n2_ := Aside0.mk (below_step (by repeat (first | (with_reducible first | exact HB.out | apply below_alloc | apply pw_below_drewN | apply below_drew1 | refine below_set ?_ GE228.out | refine below_set ?_ GE229.out) | exact HB.out)) hb)
            clear BK228
            clear BK229
            clear HB
            have BK228 := n0_
            have BK229 := n1_
            have HB := n2_
            clear n0_ n1_ n2_
            (try clear hb)
            (try clear hb2)
            (try clear hk)
            (try clear hi)
            refine hK.out _ _ ⟨(blk_cell BK228.out 0).trans rfl, (blk_cell BK228.out 1).trans rfl, (blk_cell BK228.out 2).trans rfl, (blk_cell BK228.out 3).trans rfl, (blk_cell BK228.out 4).trans rfl, (blk_cell BK229.out 0).trans rfl, (blk_cell BK229.out 1).trans rfl, (blk_cell BK229.out 2).trans rfl, (blk_cell BK229.out 3).trans rfl, (blk_cell BK229.out 4).trans rfl⟩ (fun hHeld => ?_)
            clear hK K
            refine norm_ (a' := ?_) ?_ ?_
            rotate_left
            · show Act.put _ (some 12) _ = _
              simp only [Act.put, List.setIfInBounds_toArray, List.set_cons_zero, List.set_cons_succ, i64_w, i32_w]
              rfl
            refine one_ (i := 3) (N := some 14) #[true, true, true, true, false, false, false, false, false, false, false, false, false, false, false, false, false, false, false, false, false, false, false, false, false, false, false, false, false, false, false, false, false, false, false, false, false, false, false, false, false] rfl rfl (one_of HT_.out (by kernel_rfl)) (by decide) (fun K hK => ?_)
            refine goes_ Tryd.func12 (by kernel_rfl) rfl #[.agg #[.int .i64 t230, .int .i64 t231, .string t232, .string t233, .int .i64 t234]] (by rfl) rfl rfl (by (try simp only [List.map_toArray, List.map_cons, List.map_nil]); first | done | rfl | (simp only [List.length_drop, List.length_take]; rfl)) ?_
            with_reducible refine (rivuletref06_Right.calls t230 t231 t232 t233 t234 t241 _ A7.out).mono ?_
            rintro e w34 ⟨rfl, hb⟩
            refine ⟨_, rfl, ?_⟩
            have n0_ := Aside0.mk (blk_below (g := gb228) (o := .cells #[.int .i64 t230, .int .i64 t231, .string t232, .string t233, .int .i64 t234] 23 (0, 0)) (by (with_reducible repeat (first | refine blk_drewN ?_ _ | refine blk_drew ?_ | refine blk_alloc ?_ _)); exact BK228.out) hb)
            have n1_ := Aside0.mk (blk_below (g := gb229) (o := .cells #[.int .i64 t235, .int .i64 t236, .string t237, .string t238, .int .i64 t239] 23 (0, 0)) (by (with_reducible repeat (first | refine blk_drewN ?_ _ | refine blk_drew ?_ | refine blk_alloc ?_ _)); exact BK229.out) hb)
            have n2_ := Aside0.mk (below_step (by repeat (first | (with_reducible first | exact HB.out | apply below_alloc | apply pw_below_drewN | apply below_drew1 | refine below_set ?_ GE228.out | refine below_set ?_ GE229.out) | exact HB.out)) hb)
            clear BK228
            clear BK229
            clear HB
            have BK228 := n0_
            have BK229 := n1_
            have HB := n2_
            clear n0_ n1_ n2_
            (try clear hb)
            (try clear hb2)
            (try clear hk)
            (try clear hi)
            refine hK.out _ _ ⟨(blk_cell BK228.out 0).trans rfl, (blk_cell BK228.out 1).trans rfl, (blk_cell BK228.out 2).trans rfl, (blk_cell BK228.out 3).trans rfl, (blk_cell BK228.out 4).trans rfl, (blk_cell BK229.out 0).trans rfl, (blk_cell BK229.out 1).trans rfl, (blk_cell BK229.out 2).trans rfl, (blk_cell BK229.out 3).trans rfl, (blk_cell BK229.out 4).trans rfl⟩ (fun hHeld => ?_)
            clear hK K
            refine norm_ (a' := ?_) ?_ ?_
            rotate_left
            · show Act.put _ (some 14) _ = _
              simp only [Act.put, List.setIfInBounds_toArray, List.set_cons_zero, List.set_cons_succ, i64_w, i32_w]
              rfl
            refine pure_ (i := 4) (N := some 15) (v := ?_) (a' := ?_) #[true, true, true, true, true, false, false, false, false, false, false, false, false, false, false, false, false, false, false, false, false, false, false, false, false, false, false, false, false, false, false, false, false, false, false, false, false, false, false, false, false] rfl rfl (any_of HT_.out (by kernel_rfl)) (fun _ _ _ h => h) (Or.inl ⟨by rfl, ?_⟩) ?_ ?_
            rotate_left
            · intro w'
              go_simp
              with_reducible rfl
            rotate_left
            · simp only [Act.put, List.setIfInBounds_toArray, List.set_cons_zero, List.set_cons_succ, i64_w, i32_w]
              rfl
            refine pure_ (i := 5) (N := some 16) (v := ?_) (a' := ?_) #[true, true, true, true, true, true, false, false, false, false, false, false, false, false, false, false, false, false, false, false, false, false, false, false, false, false, false, false, false, false, false, false, false, false, false, false, false, false, false, false, false] rfl rfl (any_of HT_.out (by kernel_rfl)) (fun _ _ _ h => h) (Or.inl ⟨by rfl, ?_⟩) ?_ ?_
            rotate_left
            · intro w'
              go_simp
              with_reducible rfl
            rotate_left
            · simp only [Act.put, List.setIfInBounds_toArray, List.set_cons_zero, List.set_cons_succ, i64_w, i32_w]
              rfl
            refine take_ (i := 6) (N := some 17) (v := ?_) (a' := ?_) #[true, true, true, true, true, true, true, false, false, false, false, false, false, false, false, false, false, false, false, false, false, false, false, false, false, false, false, false, false, false, false, false, false, false, false, false, false, false, false, false, false] rfl rfl (take_ofW HT_.out HW_.out (by kernel_rfl)) (fun _ _ _ h => h) (Or.inl ⟨by rfl, ?_⟩) hHeld ?_ ?_
            rotate_left
            · rintro w' ⟨s0, s1, s2, s3, s4, s5, s6, s7, s8, s9⟩
              go_simp
              with_reducible rfl
            rotate_left
            · simp only [Act.put, List.setIfInBounds_toArray, List.set_cons_zero, List.set_cons_succ, i64_w, i32_w]
              rfl
            refine take_ (i := 8) (N := some 19) (v := ?_) (a' := ?_) #[true, true, true, true, true, true, true, false, true, false, false, false, false, false, false, false, false, false, false, false, false, false, false, false, false, false, false, false, false, false, false, false, false, false, false, false, false, false, false, false, false] rfl rfl (take_ofW HT_.out HW_.out (by kernel_rfl)) (fun _ _ _ h => h) (Or.inl ⟨by rfl, ?_⟩) hHeld ?_ ?_
            rotate_left
            · rintro w' ⟨s0, s1, s2, s3, s4, s5, s6, s7, s8, s9⟩
              go_simp
              with_reducible rfl
            rotate_left
            · simp only [Act.put, List.setIfInBounds_toArray, List.set_cons_zero, List.set_cons_succ, i64_w, i32_w]
              rfl
            refine one_ (i := 7) (N := some 18) #[true, true, true, true, true, true, true, true, true, false, false, false, false, false, false, false, false, false, false, false, false, false, false, false, false, false, false, false, false, false, false, false, false, false, false, false, false, false, false, false, false] rfl rfl (one_of HT_.out (by kernel_rfl)) (by decide) (fun K hK => ?_)
            refine goes_ Tryd.func13 (by kernel_rfl) rfl #[.agg #[.int .i64 t230, .int .i64 t231, .string t232, .string t233, .int .i64 t234]] (by rfl) rfl rfl (by (try simp only [List.map_toArray, List.map_cons, List.map_nil]); first | done | rfl | (simp only [List.length_drop, List.length_take]; rfl)) ?_
            with_reducible refine (event_Put.calls t230 t231 t232 t233 t234 t242 _ A9.out).mono ?_
            rintro e w35 ⟨rfl, hb⟩
            refine ⟨_, rfl, ?_⟩
            have n0_ := Aside0.mk (blk_below (g := gb228) (o := .cells #[.int .i64 t230, .int .i64 t231, .string t232, .string t233, .int .i64 t234] 23 (0, 0)) (by (with_reducible repeat (first | refine blk_drewN ?_ _ | refine blk_drew ?_ | refine blk_alloc ?_ _)); exact BK228.out) hb)
            have n1_ := Aside0.mk (blk_below (g := gb229) (o := .cells #[.int .i64 t235, .int .i64 t236, .string t237, .string t238, .int .i64 t239] 23 (0, 0)) (by (with_reducible repeat (first | refine blk_drewN ?_ _ | refine blk_drew ?_ | refine blk_alloc ?_ _)); exact BK229.out) hb)
            have n2_ := Aside0.mk (below_step (by repeat (first | (with_reducible first | exact HB.out | apply below_alloc | apply pw_below_drewN | apply below_drew1 | refine below_set ?_ GE228.out | refine below_set ?_ GE229.out) | exact HB.out)) hb)
            clear BK228
            clear BK229
            clear HB
            have BK228 := n0_
            have BK229 := n1_
            have HB := n2_
            clear n0_ n1_ n2_
            (try clear hb)
            (try clear hb2)
            (try clear hk)
            (try clear hi)
            refine hK.out _ _ ⟨(blk_cell BK228.out 0).trans rfl, (blk_cell BK228.out 1).trans rfl, (blk_cell BK228.out 2).trans rfl, (blk_cell BK228.out 3).trans rfl, (blk_cell BK228.out 4).trans rfl, (blk_cell BK229.out 0).trans rfl, (blk_cell BK229.out 1).trans rfl, (blk_cell BK229.out 2).trans rfl, (blk_cell BK229.out 3).trans rfl, (blk_cell BK229.out 4).trans rfl⟩ (fun hHeld => ?_)
            clear hK K
            refine norm_ (a' := ?_) ?_ ?_
            rotate_left
            · show Act.put _ (some 18) _ = _
              simp only [Act.put, List.setIfInBounds_toArray, List.set_cons_zero, List.set_cons_succ, i64_w, i32_w]
              rfl
            refine one_ (i := 9) (N := some 20) #[true, true, true, true, true, true, true, true, true, true, false, false, false, false, false, false, false, false, false, false, false, false, false, false, false, false, false, false, false, false, false, false, false, false, false, false, false, false, false, false, false] rfl rfl (one_of HT_.out (by kernel_rfl)) (by decide) (fun K hK => ?_)
            refine goes_ Tryd.func14 (by kernel_rfl) rfl #[.agg #[.int .i64 t230, .int .i64 t231, .string t232, .string t233, .int .i64 t234]] (by rfl) rfl rfl (by (try simp only [List.map_toArray, List.map_cons, List.map_nil]); first | done | rfl | (simp only [List.length_drop, List.length_take]; rfl)) ?_
            with_reducible refine (rivuletref06_Put.calls t230 t231 t232 t233 t234 t243 _ A10.out).mono ?_
            rintro e w36 ⟨rfl, hb⟩
            refine ⟨_, rfl, ?_⟩
            have n0_ := Aside0.mk (blk_below (g := gb228) (o := .cells #[.int .i64 t230, .int .i64 t231, .string t232, .string t233, .int .i64 t234] 23 (0, 0)) (by (with_reducible repeat (first | refine blk_drewN ?_ _ | refine blk_drew ?_ | refine blk_alloc ?_ _)); exact BK228.out) hb)
            have n1_ := Aside0.mk (blk_below (g := gb229) (o := .cells #[.int .i64 t235, .int .i64 t236, .string t237, .string t238, .int .i64 t239] 23 (0, 0)) (by (with_reducible repeat (first | refine blk_drewN ?_ _ | refine blk_drew ?_ | refine blk_alloc ?_ _)); exact BK229.out) hb)
            have n2_ := Aside0.mk (below_step (by repeat (first | (with_reducible first | exact HB.out | apply below_alloc | apply pw_below_drewN | apply below_drew1 | refine below_set ?_ GE228.out | refine below_set ?_ GE229.out) | exact HB.out)) hb)
            clear BK228
            clear BK229
            clear HB
            have BK228 := n0_
            have BK229 := n1_
            have HB := n2_
            clear n0_ n1_ n2_
            (try clear hb)
            (try clear hb2)
            (try clear hk)
            (try clear hi)
            refine hK.out _ _ ⟨(blk_cell BK228.out 0).trans rfl, (blk_cell BK228.out 1).trans rfl, (blk_cell BK228.out 2).trans rfl, (blk_cell BK228.out 3).trans rfl, (blk_cell BK228.out 4).trans rfl, (blk_cell BK229.out 0).trans rfl, (blk_cell BK229.out 1).trans rfl, (blk_cell BK229.out 2).trans rfl, (blk_cell BK229.out 3).trans rfl, (blk_cell BK229.out 4).trans rfl⟩ (fun hHeld => ?_)
            clear hK K
            refine norm_ (a' := ?_) ?_ ?_
            rotate_left
            · show Act.put _ (some 20) _ = _
              simp only [Act.put, List.setIfInBounds_toArray, List.set_cons_zero, List.set_cons_succ, i64_w, i32_w]
              rfl
            refine pure_ (i := 10) (N := some 21) (v := ?_) (a' := ?_) #[true, true, true, true, true, true, true, true, true, true, true, false, false, false, false, false, false, false, false, false, false, false, false, false, false, false, false, false, false, false, false, false, false, false, false, false, false, false, false, false, false] rfl rfl (any_of HT_.out (by kernel_rfl)) (fun _ _ _ h => h) (Or.inl ⟨by rfl, ?_⟩) ?_ ?_
            rotate_left
            · intro w'
              go_simp
              with_reducible rfl
            rotate_left
            · simp only [Act.put, List.setIfInBounds_toArray, List.set_cons_zero, List.set_cons_succ, i64_w, i32_w]
              rfl
            refine pure_ (i := 11) (N := some 22) (v := ?_) (a' := ?_) #[true, true, true, true, true, true, true, true, true, true, true, true, false, false, false, false, false, false, false, false, false, false, false, false, false, false, false, false, false, false, false, false, false, false, false, false, false, false, false, false, false] rfl rfl (any_of HT_.out (by kernel_rfl)) (fun _ _ _ h => h) (Or.inl ⟨by rfl, ?_⟩) ?_ ?_
            rotate_left
            · intro w'
              go_simp
              with_reducible rfl
            rotate_left
            · simp only [Act.put, List.setIfInBounds_toArray, List.set_cons_zero, List.set_cons_succ, i64_w, i32_w]
              rfl
            refine pure_ (i := 12) (N := some 23) (v := ?_) (a' := ?_) #[true, true, true, true, true, true, true, true, true, true, true, true, true, false, false, false, false, false, false, false, false, false, false, false, false, false, false, false, false, false, false, false, false, false, false, false, false, false, false, false, false] rfl rfl (any_of HT_.out (by kernel_rfl)) (fun _ _ _ h => h) (Or.inl ⟨by rfl, ?_⟩) ?_ ?_
            rotate_left
            · intro w'
              go_simp
              with_reducible rfl
            rotate_left
            · simp only [Act.put, List.setIfInBounds_toArray, List.set_cons_zero, List.set_cons_succ, i64_w, i32_w]
              rfl
            refine take_ (i := 13) (N := some 24) (v := ?_) (a' := ?_) #[true, true, true, true, true, true, true, true, true, true, true, true, true, true, false, false, false, false, false, false, false, false, false, false, false, false, false, false, false, false, false, false, false, false, false, false, false, false, false, false, false] rfl rfl (take_ofW HT_.out HW_.out (by kernel_rfl)) (fun _ _ _ h => h) (Or.inl ⟨by rfl, ?_⟩) hHeld ?_ ?_
            rotate_left
            · rintro w' ⟨s0, s1, s2, s3, s4, s5, s6, s7, s8, s9⟩
              go_simp
              with_reducible rfl
            rotate_left
            · simp only [Act.put, List.setIfInBounds_toArray, List.set_cons_zero, List.set_cons_succ, i64_w, i32_w]
              rfl
            refine take_ (i := 15) (N := some 26) (v := ?_) (a' := ?_) #[true, true, true, true, true, true, true, true, true, true, true, true, true, true, false, true, false, false, false, false, false, false, false, false, false, false, false, false, false, false, false, false, false, false, false, false, false, false, false, false, false] rfl rfl (take_ofW HT_.out HW_.out (by kernel_rfl)) (fun _ _ _ h => h) (Or.inl ⟨by rfl, ?_⟩) hHeld ?_ ?_
            rotate_left
            · rintro w' ⟨s0, s1, s2, s3, s4, s5, s6, s7, s8, s9⟩
              go_simp
              with_reducible rfl
            rotate_left
            · simp only [Act.put, List.setIfInBounds_toArray, List.set_cons_zero, List.set_cons_succ, i64_w, i32_w]
              rfl
            refine one_ (i := 14) (N := some 25) #[true, true, true, true, true, true, true, true, true, true, true, true, true, true, true, true, false, false, false, false, false, false, false, false, false, false, false, false, false, false, false, false, false, false, false, false, false, false, false, false, false] rfl rfl (one_of HT_.out (by kernel_rfl)) (by decide) (fun K hK => ?_)
            refine goes_ Tryd.func15 (by kernel_rfl) rfl #[.agg #[.int .i64 t230, .int .i64 t231, .string t232, .string t233, .int .i64 t234]] (by rfl) rfl rfl (by (try simp only [List.map_toArray, List.map_cons, List.map_nil]); first | done | rfl | (simp only [List.length_drop, List.length_take]; rfl)) ?_
            with_reducible refine (event_Show.callsT t230 t231 t232 t233 t234 t244 w _ hT_.out (by repeat (first | (with_reducible first | exact HB.out | apply below_alloc | apply pw_below_drewN | apply below_drew1 | refine below_set ?_ GE228.out | refine below_set ?_ GE229.out) | exact HB.out)) A12.out).mono ?_
            rintro e w37 ⟨rfl, hb⟩
            refine ⟨_, rfl, ?_⟩
            have n0_ := Aside0.mk (blk_below (g := gb228) (o := .cells #[.int .i64 t230, .int .i64 t231, .string t232, .string t233, .int .i64 t234] 23 (0, 0)) (by (with_reducible repeat (first | refine blk_drewN ?_ _ | refine blk_drew ?_ | refine blk_alloc ?_ _)); exact BK228.out) hb)
            have n1_ := Aside0.mk (blk_below (g := gb229) (o := .cells #[.int .i64 t235, .int .i64 t236, .string t237, .string t238, .int .i64 t239] 23 (0, 0)) (by (with_reducible repeat (first | refine blk_drewN ?_ _ | refine blk_drew ?_ | refine blk_alloc ?_ _)); exact BK229.out) hb)
            have n2_ := Aside0.mk (below_step (by repeat (first | (with_reducible first | exact HB.out | apply below_alloc | apply pw_below_drewN | apply below_drew1 | refine below_set ?_ GE228.out | refine below_set ?_ GE229.out) | exact HB.out)) hb)
            clear BK228
            clear BK229
            clear HB
            have BK228 := n0_
            have BK229 := n1_
            have HB := n2_
            clear n0_ n1_ n2_
            (try clear hb)
            (try clear hb2)
            (try clear hk)
            (try clear hi)
            refine hK.out _ _ ⟨(blk_cell BK228.out 0).trans rfl, (blk_cell BK228.out 1).trans rfl, (blk_cell BK228.out 2).trans rfl, (blk_cell BK228.out 3).trans rfl, (blk_cell BK228.out 4).trans rfl, (blk_cell BK229.out 0).trans rfl, (blk_cell BK229.out 1).trans rfl, (blk_cell BK229.out 2).trans rfl, (blk_cell BK229.out 3).trans rfl, (blk_cell BK229.out 4).trans rfl⟩ (fun hHeld => ?_)
            clear hK K
            refine norm_ (a' := ?_) ?_ ?_
            rotate_left
            · show Act.put _ (some 25) _ = _
              simp only [Act.put, List.setIfInBounds_toArray, List.set_cons_zero, List.set_cons_succ, i64_w, i32_w]
              rfl
            refine one_ (i := 16) (N := some 27) #[true, true, true, true, true, true, true, true, true, true, true, true, true, true, true, true, true, false, false, false, false, false, false, false, false, false, false, false, false, false, false, false, false, false, false, false, false, false, false, false, false] rfl rfl (one_of HT_.out (by kernel_rfl)) (by decide) (fun K hK => ?_)
            refine goes_ Tryd.func16 (by kernel_rfl) rfl #[.agg #[.int .i64 t230, .int .i64 t231, .string t232, .string t233, .int .i64 t234]] (by rfl) rfl rfl (by (try simp only [List.map_toArray, List.map_cons, List.map_nil]); first | done | rfl | (simp only [List.length_drop, List.length_take]; rfl)) ?_
            with_reducible refine (rivuletref06_Show.calls k t230 t231 t232 t233 t234 t245 _ A13.out).mono ?_
            rintro e w38 ⟨rfl, hb⟩
            refine ⟨_, rfl, ?_⟩
            have n0_ := Aside0.mk (blk_below (g := gb228) (o := .cells #[.int .i64 t230, .int .i64 t231, .string t232, .string t233, .int .i64 t234] 23 (0, 0)) (by (with_reducible repeat (first | refine blk_drewN ?_ _ | refine blk_drew ?_ | refine blk_alloc ?_ _)); exact BK228.out) hb)
            have n1_ := Aside0.mk (blk_below (g := gb229) (o := .cells #[.int .i64 t235, .int .i64 t236, .string t237, .string t238, .int .i64 t239] 23 (0, 0)) (by (with_reducible repeat (first | refine blk_drewN ?_ _ | refine blk_drew ?_ | refine blk_alloc ?_ _)); exact BK229.out) hb)
            have n2_ := Aside0.mk (below_step (by repeat (first | (with_reducible first | exact HB.out | apply below_alloc | apply pw_below_drewN | apply below_drew1 | refine below_set ?_ GE228.out | refine below_set ?_ GE229.out) | exact HB.out)) hb)
            clear BK228
            clear BK229
            clear HB
            have BK228 := n0_
            have BK229 := n1_
            have HB := n2_
            clear n0_ n1_ n2_
            (try clear hb)
            (try clear hb2)
            (try clear hk)
            (try clear hi)
            refine hK.out _ _ ⟨(blk_cell BK228.out 0).trans rfl, (blk_cell BK228.out 1).trans rfl, (blk_cell BK228.out 2).trans rfl, (blk_cell BK228.out 3).trans rfl, (blk_cell BK228.out 4).trans rfl, (blk_cell BK229.out 0).trans rfl, (blk_cell BK229.out 1).trans rfl, (blk_cell BK229.out 2).trans rfl, (blk_cell BK229.out 3).trans rfl, (blk_cell BK229.out 4).trans rfl⟩ (fun hHeld => ?_)
            clear hK K
            refine norm_ (a' := ?_) ?_ ?_
            rotate_left
            · show Act.put _ (some 27) _ = _
              simp only [Act.put, List.setIfInBounds_toArray, List.set_cons_zero, List.set_cons_succ, i64_w, i32_w]
              rfl
            refine pure_ (i := 17) (N := some 28) (v := ?_) (a' := ?_) #[true, true, true, true, true, true, true, true, true, true, true, true, true, true, true, true, true, true, false, false, false, false, false, false, false, false, false, false, false, false, false, false, false, false, false, false, false, false, false, false, false] rfl rfl (any_of HT_.out (by kernel_rfl)) (fun _ _ _ h => h) (Or.inl ⟨by rfl, ?_⟩) ?_ ?_
            rotate_left
            · intro w'
              go_simp
              with_reducible rfl
            rotate_left
            · simp only [Act.put, List.setIfInBounds_toArray, List.set_cons_zero, List.set_cons_succ, i64_w, i32_w]
              rfl
            refine pure_ (i := 18) (N := some 29) (v := ?_) (a' := ?_) #[true, true, true, true, true, true, true, true, true, true, true, true, true, true, true, true, true, true, true, false, false, false, false, false, false, false, false, false, false, false, false, false, false, false, false, false, false, false, false, false, false] rfl rfl (any_of HT_.out (by kernel_rfl)) (fun _ _ _ h => h) (Or.inl ⟨by rfl, ?_⟩) ?_ ?_
            rotate_left
            · intro w'
              go_simp
              with_reducible rfl
            rotate_left
            · simp only [Act.put, List.setIfInBounds_toArray, List.set_cons_zero, List.set_cons_succ, i64_w, i32_w]
              rfl
            refine pure_ (i := 19) (N := some 30) (v := ?_) (a' := ?_) #[true, true, true, true, true, true, true, true, true, true, true, true, true, true, true, true, true, true, true, true, false, false, false, false, false, false, false, false, false, false, false, false, false, false, false, false, false, false, false, false, false] rfl rfl (any_of HT_.out (by kernel_rfl)) (fun _ _ _ h => h) (Or.inl ⟨by rfl, ?_⟩) ?_ ?_
            rotate_left
            · intro w'
              go_simp
              with_reducible rfl
            rotate_left
            · simp only [Act.put, List.setIfInBounds_toArray, List.set_cons_zero, List.set_cons_succ, i64_w, i32_w]
              rfl
            refine pure_ (i := 21) (N := some 32) (v := ?_) (a' := ?_) #[true, true, true, true, true, true, true, true, true, true, true, true, true, true, true, true, true, true, true, true, false, true, false, false, false, false, false, false, false, false, false, false, false, false, false, false, false, false, false, false, false] rfl rfl (any_of HT_.out (by kernel_rfl)) (fun _ _ _ h => h) (Or.inl ⟨by rfl, ?_⟩) ?_ ?_
            rotate_left
            · intro w'
              go_simp
              with_reducible rfl
            rotate_left
            · simp only [Act.put, List.setIfInBounds_toArray, List.set_cons_zero, List.set_cons_succ, i64_w, i32_w]
              rfl
            refine pure_ (i := 24) (N := some 35) (v := ?_) (a' := ?_) #[true, true, true, true, true, true, true, true, true, true, true, true, true, true, true, true, true, true, true, true, false, true, false, false, true, false, false, false, false, false, false, false, false, false, false, false, false, false, false, false, false] rfl rfl (any_of HT_.out (by kernel_rfl)) (fun _ _ _ h => h) (Or.inl ⟨by rfl, ?_⟩) ?_ ?_
            rotate_left
            · intro w'
              go_simp
              with_reducible rfl
            rotate_left
            · simp only [Act.put, List.setIfInBounds_toArray, List.set_cons_zero, List.set_cons_succ, i64_w, i32_w]
              rfl
            refine take_ (i := 20) (N := some 31) (v := ?_) (a' := ?_) #[true, true, true, true, true, true, true, true, true, true, true, true, true, true, true, true, true, true, true, true, true, true, false, false, true, false, false, false, false, false, false, false, false, false, false, false, false, false, false, false, false] rfl rfl (take_ofW HT_.out HW_.out (by kernel_rfl)) (fun _ _ _ h => h) (Or.inl ⟨by rfl, ?_⟩) hHeld ?_ ?_
            rotate_left
            · rintro w' ⟨s0, s1, s2, s3, s4, s5, s6, s7, s8, s9⟩
              go_simp
              with_reducible rfl
            rotate_left
            · simp only [Act.put, List.setIfInBounds_toArray, List.set_cons_zero, List.set_cons_succ, i64_w, i32_w]
              rfl
            refine take_ (i := 23) (N := some 34) (v := ?_) (a' := ?_) #[true, true, true, true, true, true, true, true, true, true, true, true, true, true, true, true, true, true, true, true, true, true, false, true, true, false, false, false, false, false, false, false, false, false, false, false, false, false, false, false, false] rfl rfl (take_ofW HT_.out HW_.out (by kernel_rfl)) (fun _ _ _ h => h) (Or.inl ⟨by rfl, ?_⟩) hHeld ?_ ?_
            rotate_left
            · rintro w' ⟨s0, s1, s2, s3, s4, s5, s6, s7, s8, s9⟩
              go_simp
              with_reducible rfl
            rotate_left
            · simp only [Act.put, List.setIfInBounds_toArray, List.set_cons_zero, List.set_cons_succ, i64_w, i32_w]
              rfl
            refine one_ (i := 22) (N := some 33) #[true, true, true, true, true, true, true, true, true, true, true, true, true, true, true, true, true, true, true, true, true, true, true, true, true, false, false, false, false, false, false, false, false, false, false, false, false, false, false, false, false] rfl rfl (one_of HT_.out (by kernel_rfl)) (by decide) (fun K hK => ?_)
            refine goes_ Tryd.func17 (by kernel_rfl) rfl #[.agg #[.int .i64 t230, .int .i64 t231, .string t232, .string t233, .int .i64 t234], .int .i64 a2] (by rfl) rfl rfl (by (try simp only [List.map_toArray, List.map_cons, List.map_nil]); first | done | rfl | (simp only [List.length_drop, List.length_take]; rfl)) ?_
            with_reducible refine (event_Age.calls t230 t231 t232 t233 t234 a2 t246 t247 t248 t249 t250 _ A15.out).mono ?_
            rintro e w39 ⟨rfl, hb⟩
            refine ⟨_, rfl, ?_⟩
            have n0_ := Aside0.mk (blk_below (g := gb228) (o := .cells #[.int .i64 t230, .int .i64 t231, .string t232, .string t233, .int .i64 t234] 23 (0, 0)) (by (with_reducible repeat (first | refine blk_drewN ?_ _ | refine blk_drew ?_ | refine blk_alloc ?_ _)); exact BK228.out) hb)
            have n1_ := Aside0.mk (blk_below (g := gb229) (o := .cells #[.int .i64 t235, .int .i64 t236, .string t237, .string t238, .int .i64 t239] 23 (0, 0)) (by (with_reducible repeat (first | refine blk_drewN ?_ _ | refine blk_drew ?_ | refine blk_alloc ?_ _)); exact BK229.out) hb)
            have n2_ := Aside0.mk (below_step (by repeat (first | (with_reducible first | exact HB.out | apply below_alloc | apply pw_below_drewN | apply below_drew1 | refine below_set ?_ GE228.out | refine below_set ?_ GE229.out) | exact HB.out)) hb)
            clear BK228
            clear BK229
            clear HB
            have BK228 := n0_
            have BK229 := n1_
            have HB := n2_
            clear n0_ n1_ n2_
            (try clear hb)
            (try clear hb2)
            (try clear hk)
            (try clear hi)
            refine hK.out _ _ ⟨(blk_cell BK228.out 0).trans rfl, (blk_cell BK228.out 1).trans rfl, (blk_cell BK228.out 2).trans rfl, (blk_cell BK228.out 3).trans rfl, (blk_cell BK228.out 4).trans rfl, (blk_cell BK229.out 0).trans rfl, (blk_cell BK229.out 1).trans rfl, (blk_cell BK229.out 2).trans rfl, (blk_cell BK229.out 3).trans rfl, (blk_cell BK229.out 4).trans rfl⟩ (fun hHeld => ?_)
            clear hK K
            refine norm_ (a' := ?_) ?_ ?_
            rotate_left
            · show Act.put _ (some 33) _ = _
              simp only [Act.put, List.setIfInBounds_toArray, List.set_cons_zero, List.set_cons_succ, i64_w, i32_w]
              rfl
            refine one_ (i := 25) (N := some 36) #[true, true, true, true, true, true, true, true, true, true, true, true, true, true, true, true, true, true, true, true, true, true, true, true, true, true, false, false, false, false, false, false, false, false, false, false, false, false, false, false, false] rfl rfl (one_of HT_.out (by kernel_rfl)) (by decide) (fun K hK => ?_)
            refine goes_ Tryd.func18 (by kernel_rfl) rfl #[.agg #[.int .i64 t230, .int .i64 t231, .string t232, .string t233, .int .i64 t234], .int .i64 a2] (by rfl) rfl rfl (by (try simp only [List.map_toArray, List.map_cons, List.map_nil]); first | done | rfl | (simp only [List.length_drop, List.length_take]; rfl)) ?_
            with_reducible refine (rivuletref06_Age.calls t230 t231 t232 t233 t234 a2 t251 t252 t253 t254 t255 _ A16.out).mono ?_
            rintro e w40 ⟨rfl, hb⟩
            refine ⟨_, rfl, ?_⟩
            have n0_ := Aside0.mk (blk_below (g := gb228) (o := .cells #[.int .i64 t230, .int .i64 t231, .string t232, .string t233, .int .i64 t234] 23 (0, 0)) (by (with_reducible repeat (first | refine blk_drewN ?_ _ | refine blk_drew ?_ | refine blk_alloc ?_ _)); exact BK228.out) hb)
            have n1_ := Aside0.mk (blk_below (g := gb229) (o := .cells #[.int .i64 t235, .int .i64 t236, .string t237, .string t238, .int .i64 t239] 23 (0, 0)) (by (with_reducible repeat (first | refine blk_drewN ?_ _ | refine blk_drew ?_ | refine blk_alloc ?_ _)); exact BK229.out) hb)
            have n2_ := Aside0.mk (below_step (by repeat (first | (with_reducible first | exact HB.out | apply below_alloc | apply pw_below_drewN | apply below_drew1 | refine below_set ?_ GE228.out | refine below_set ?_ GE229.out) | exact HB.out)) hb)
            clear BK228
            clear BK229
            clear HB
            have BK228 := n0_
            have BK229 := n1_
            have HB := n2_
            clear n0_ n1_ n2_
            (try clear hb)
            (try clear hb2)
            (try clear hk)
            (try clear hi)
            refine hK.out _ _ ⟨(blk_cell BK228.out 0).trans rfl, (blk_cell BK228.out 1).trans rfl, (blk_cell BK228.out 2).trans rfl, (blk_cell BK228.out 3).trans rfl, (blk_cell BK228.out 4).trans rfl, (blk_cell BK229.out 0).trans rfl, (blk_cell BK229.out 1).trans rfl, (blk_cell BK229.out 2).trans rfl, (blk_cell BK229.out 3).trans rfl, (blk_cell BK229.out 4).trans rfl⟩ (fun hHeld => ?_)
            clear hK K
            refine norm_ (a' := ?_) ?_ ?_
            rotate_left
            · show Act.put _ (some 36) _ = _
              simp only [Act.put, List.setIfInBounds_toArray, List.set_cons_zero, List.set_cons_succ, i64_w, i32_w]
              rfl
            refine pure_ (i := 26) (N := some 37) (v := ?_) (a' := ?_) #[true, true, true, true, true, true, true, true, true, true, true, true, true, true, true, true, true, true, true, true, true, true, true, true, true, true, true, false, false, false, false, false, false, false, false, false, false, false, false, false, false] rfl rfl (any_of HT_.out (by kernel_rfl)) (fun _ _ _ h => h) (Or.inl ⟨by rfl, ?_⟩) ?_ ?_
            rotate_left
            · intro w'
              go_simp
              with_reducible rfl
            rotate_left
            · simp only [Act.put, List.setIfInBounds_toArray, List.set_cons_zero, List.set_cons_succ, i64_w, i32_w]
              rfl
            refine pure_ (i := 27) (N := some 38) (v := ?_) (a' := ?_) #[true, true, true, true, true, true, true, true, true, true, true, true, true, true, true, true, true, true, true, true, true, true, true, true, true, true, true, true, false, false, false, false, false, false, false, false, false, false, false, false, false] rfl rfl (any_of HT_.out (by kernel_rfl)) (fun _ _ _ h => h) (Or.inl ⟨by rfl, ?_⟩) ?_ ?_
            rotate_left
            · intro w'
              go_simp
              with_reducible rfl
            rotate_left
            · simp only [Act.put, List.setIfInBounds_toArray, List.set_cons_zero, List.set_cons_succ, i64_w, i32_w]
              rfl
            refine pure_ (i := 28) (N := some 39) (v := ?_) (a' := ?_) #[true, true, true, true, true, true, true, true, true, true, true, true, true, true, true, true, true, true, true, true, true, true, true, true, true, true, true, true, true, false, false, false, false, false, false, false, false, false, false, false, false] rfl rfl (any_of HT_.out (by kernel_rfl)) (fun _ _ _ h => h) (Or.inl ⟨by rfl, ?_⟩) ?_ ?_
            rotate_left
            · intro w'
              go_simp
              with_reducible rfl
            rotate_left
            · simp only [Act.put, List.setIfInBounds_toArray, List.set_cons_zero, List.set_cons_succ, i64_w, i32_w]
              rfl
            refine take_ (i := 29) (N := some 40) (v := ?_) (a' := ?_) #[true, true, true, true, true, true, true, true, true, true, true, true, true, true, true, true, true, true, true, true, true, true, true, true, true, true, true, true, true, true, false, false, false, false, false, false, false, false, false, false, false] rfl rfl (take_ofW HT_.out HW_.out (by kernel_rfl)) (fun _ _ _ h => h) (Or.inl ⟨by rfl, ?_⟩) hHeld ?_ ?_
            rotate_left
            · rintro w' ⟨s0, s1, s2, s3, s4, s5, s6, s7, s8, s9⟩
              go_simp
              with_reducible rfl
            rotate_left
            · simp only [Act.put, List.setIfInBounds_toArray, List.set_cons_zero, List.set_cons_succ, i64_w, i32_w]
              rfl
            refine take_ (i := 30) (N := some 41) (v := ?_) (a' := ?_) #[true, true, true, true, true, true, true, true, true, true, true, true, true, true, true, true, true, true, true, true, true, true, true, true, true, true, true, true, true, true, true, false, false, false, false, false, false, false, false, false, false] rfl rfl (take_ofW HT_.out HW_.out (by kernel_rfl)) (fun _ _ _ h => h) (Or.inl ⟨by rfl, ?_⟩) hHeld ?_ ?_
            rotate_left
            · rintro w' ⟨s0, s1, s2, s3, s4, s5, s6, s7, s8, s9⟩
              go_simp
              with_reducible rfl
            rotate_left
            · simp only [Act.put, List.setIfInBounds_toArray, List.set_cons_zero, List.set_cons_succ, i64_w, i32_w]
              rfl
            refine take_ (i := 32) (N := some 43) (v := ?_) (a' := ?_) #[true, true, true, true, true, true, true, true, true, true, true, true, true, true, true, true, true, true, true, true, true, true, true, true, true, true, true, true, true, true, true, false, true, false, false, false, false, false, false, false, false] rfl rfl (take_ofW HT_.out HW_.out (by kernel_rfl)) (fun _ _ _ h => h) (Or.inl ⟨by rfl, ?_⟩) hHeld ?_ ?_
            rotate_left
            · rintro w' ⟨s0, s1, s2, s3, s4, s5, s6, s7, s8, s9⟩
              go_simp
              with_reducible rfl
            rotate_left
            · simp only [Act.put, List.setIfInBounds_toArray, List.set_cons_zero, List.set_cons_succ, i64_w, i32_w]
              rfl
            refine take_ (i := 33) (N := some 44) (v := ?_) (a' := ?_) #[true, true, true, true, true, true, true, true, true, true, true, true, true, true, true, true, true, true, true, true, true, true, true, true, true, true, true, true, true, true, true, false, true, true, false, false, false, false, false, false, false] rfl rfl (take_ofW HT_.out HW_.out (by kernel_rfl)) (fun _ _ _ h => h) (Or.inl ⟨by rfl, ?_⟩) hHeld ?_ ?_
            rotate_left
            · rintro w' ⟨s0, s1, s2, s3, s4, s5, s6, s7, s8, s9⟩
              go_simp
              with_reducible rfl
            rotate_left
            · simp only [Act.put, List.setIfInBounds_toArray, List.set_cons_zero, List.set_cons_succ, i64_w, i32_w]
              rfl
            refine one_ (i := 31) (N := some 42) #[true, true, true, true, true, true, true, true, true, true, true, true, true, true, true, true, true, true, true, true, true, true, true, true, true, true, true, true, true, true, true, true, true, true, false, false, false, false, false, false, false] rfl rfl (one_of HT_.out (by kernel_rfl)) (by decide) (fun K hK => ?_)
            refine goes_ Tryd.func19 (by kernel_rfl) rfl #[.agg #[.int .i64 t230, .int .i64 t231, .string t232, .string t233, .int .i64 t234], .agg #[.int .i64 t235, .int .i64 t236, .string t237, .string t238, .int .i64 t239]] (by rfl) rfl rfl (by (try simp only [List.map_toArray, List.map_cons, List.map_nil]); first | done | rfl | (simp only [List.length_drop, List.length_take]; rfl)) ?_
            with_reducible refine (event_Same.calls t230 t231 t232 t233 t234 t235 t236 t237 t238 t239 t256 _ A18.out).mono ?_
            rintro e w41 ⟨rfl, hb⟩
            refine ⟨_, rfl, ?_⟩
            have n0_ := Aside0.mk (blk_below (g := gb228) (o := .cells #[.int .i64 t230, .int .i64 t231, .string t232, .string t233, .int .i64 t234] 23 (0, 0)) (by (with_reducible repeat (first | refine blk_drewN ?_ _ | refine blk_drew ?_ | refine blk_alloc ?_ _)); exact BK228.out) hb)
            have n1_ := Aside0.mk (blk_below (g := gb229) (o := .cells #[.int .i64 t235, .int .i64 t236, .string t237, .string t238, .int .i64 t239] 23 (0, 0)) (by (with_reducible repeat (first | refine blk_drewN ?_ _ | refine blk_drew ?_ | refine blk_alloc ?_ _)); exact BK229.out) hb)
            have n2_ := Aside0.mk (below_step (by repeat (first | (with_reducible first | exact HB.out | apply below_alloc | apply pw_below_drewN | apply below_drew1 | refine below_set ?_ GE228.out | refine below_set ?_ GE229.out) | exact HB.out)) hb)
            clear BK228
            clear BK229
            clear HB
            have BK228 := n0_
            have BK229 := n1_
            have HB := n2_
            clear n0_ n1_ n2_
            (try clear hb)
            (try clear hb2)
            (try clear hk)
            (try clear hi)
            refine hK.out _ _ ⟨(blk_cell BK228.out 0).trans rfl, (blk_cell BK228.out 1).trans rfl, (blk_cell BK228.out 2).trans rfl, (blk_cell BK228.out 3).trans rfl, (blk_cell BK228.out 4).trans rfl, (blk_cell BK229.out 0).trans rfl, (blk_cell BK229.out 1).trans rfl, (blk_cell BK229.out 2).trans rfl, (blk_cell BK229.out 3).trans rfl, (blk_cell BK229.out 4).trans rfl⟩ (fun hHeld => ?_)
            clear hK K
            refine norm_ (a' := ?_) ?_ ?_
            rotate_left
            · show Act.put _ (some 42) _ = _
              simp only [Act.put, List.setIfInBounds_toArray, List.set_cons_zero, List.set_cons_succ, i64_w, i32_w]
              rfl
            refine one_ (i := 34) (N := some 45) #[true, true, true, true, true, true, true, true, true, true, true, true, true, true, true, true, true, true, true, true, true, true, true, true, true, true, true, true, true, true, true, true, true, true, true, false, false, false, false, false, false] rfl rfl (one_of HT_.out (by kernel_rfl)) (by decide) (fun K hK => ?_)
            refine goes_ Tryd.func20 (by kernel_rfl) rfl #[.agg #[.int .i64 t230, .int .i64 t231, .string t232, .string t233, .int .i64 t234], .agg #[.int .i64 t235, .int .i64 t236, .string t237, .string t238, .int .i64 t239]] (by rfl) rfl rfl (by (try simp only [List.map_toArray, List.map_cons, List.map_nil]); first | done | rfl | (simp only [List.length_drop, List.length_take]; rfl)) ?_
            with_reducible refine (rivuletref06_Same.calls t230 t231 t232 t233 t234 t235 t236 t237 t238 t239 t257 _ A19.out).mono ?_
            rintro e w42 ⟨rfl, hb⟩
            refine ⟨_, rfl, ?_⟩
            have n0_ := Aside0.mk (blk_below (g := gb228) (o := .cells #[.int .i64 t230, .int .i64 t231, .string t232, .string t233, .int .i64 t234] 23 (0, 0)) (by (with_reducible repeat (first | refine blk_drewN ?_ _ | refine blk_drew ?_ | refine blk_alloc ?_ _)); exact BK228.out) hb)
            have n1_ := Aside0.mk (blk_below (g := gb229) (o := .cells #[.int .i64 t235, .int .i64 t236, .string t237, .string t238, .int .i64 t239] 23 (0, 0)) (by (with_reducible repeat (first | refine blk_drewN ?_ _ | refine blk_drew ?_ | refine blk_alloc ?_ _)); exact BK229.out) hb)
            have n2_ := Aside0.mk (below_step (by repeat (first | (with_reducible first | exact HB.out | apply below_alloc | apply pw_below_drewN | apply below_drew1 | refine below_set ?_ GE228.out | refine below_set ?_ GE229.out) | exact HB.out)) hb)
            clear BK228
            clear BK229
            clear HB
            have BK228 := n0_
            have BK229 := n1_
            have HB := n2_
            clear n0_ n1_ n2_
            (try clear hb)
            (try clear hb2)
            (try clear hk)
            (try clear hi)
            refine hK.out _ _ ⟨(blk_cell BK228.out 0).trans rfl, (blk_cell BK228.out 1).trans rfl, (blk_cell BK228.out 2).trans rfl, (blk_cell BK228.out 3).trans rfl, (blk_cell BK228.out 4).trans rfl, (blk_cell BK229.out 0).trans rfl, (blk_cell BK229.out 1).trans rfl, (blk_cell BK229.out 2).trans rfl, (blk_cell BK229.out 3).trans rfl, (blk_cell BK229.out 4).trans rfl⟩ (fun hHeld => ?_)
            clear hK K
            refine norm_ (a' := ?_) ?_ ?_
            rotate_left
            · show Act.put _ (some 45) _ = _
              simp only [Act.put, List.setIfInBounds_toArray, List.set_cons_zero, List.set_cons_succ, i64_w, i32_w]
              rfl
            refine pure_ (i := 35) (N := some 46) (v := ?_) (a' := ?_) #[true, true, true, true, true, true, true, true, true, true, true, true, true, true, true, true, true, true, true, true, true, true, true, true, true, true, true, true, true, true, true, true, true, true, true, true, false, false, false, false, false] rfl rfl (any_of HT_.out (by kernel_rfl)) (fun _ _ _ h => h) (Or.inl ⟨by rfl, ?_⟩) ?_ ?_
            rotate_left
            · intro w'
              go_simp
              with_reducible rfl
            rotate_left
            · simp only [Act.put, List.setIfInBounds_toArray, List.set_cons_zero, List.set_cons_succ, i64_w, i32_w]
              rfl
            refine pure_ (i := 36) (N := some 47) (v := ?_) (a' := ?_) #[true, true, true, true, true, true, true, true, true, true, true, true, true, true, true, true, true, true, true, true, true, true, true, true, true, true, true, true, true, true, true, true, true, true, true, true, true, false, false, false, false] rfl rfl (any_of HT_.out (by kernel_rfl)) (fun _ _ _ h => h) (Or.inl ⟨by rfl, ?_⟩) ?_ ?_
            rotate_left
            · intro w'
              go_simp
              with_reducible rfl
            rotate_left
            · simp only [Act.put, List.setIfInBounds_toArray, List.set_cons_zero, List.set_cons_succ, i64_w, i32_w]
              rfl
            refine pure_ (i := 37) (N := some 48) (v := ?_) (a' := ?_) #[true, true, true, true, true, true, true, true, true, true, true, true, true, true, true, true, true, true, true, true, true, true, true, true, true, true, true, true, true, true, true, true, true, true, true, true, true, true, false, false, false] rfl rfl (any_of HT_.out (by kernel_rfl)) (fun _ _ _ h => h) (Or.inl ⟨by rfl, ?_⟩) ?_ ?_
            rotate_left
            · intro w'
              go_simp
              with_reducible rfl
            rotate_left
            · simp only [Act.put, List.setIfInBounds_toArray, List.set_cons_zero, List.set_cons_succ, i64_w, i32_w]
              rfl
            refine one_ (i := 38) (N := some 49) #[true, true, true, true, true, true, true, true, true, true, true, true, true, true, true, true, true, true, true, true, true, true, true, true, true, true, true, true, true, true, true, true, true, true, true, true, true, true, true, false, false] rfl rfl (one_of HT_.out (by kernel_rfl)) (by decide) (fun K hK => ?_)
            refine goes_ Tryd.func21 (by kernel_rfl) rfl #[] (by rfl) rfl rfl (by (try simp only [List.map_toArray, List.map_cons, List.map_nil]); first | done | rfl | (simp only [List.length_drop, List.length_take]; rfl)) ?_
            with_reducible refine (rivuletlaw06_fixed.calls k  t258 _ A21.out).mono ?_
            rintro e w43 ⟨rfl, hb⟩
            refine ⟨_, rfl, ?_⟩
            have n0_ := Aside0.mk (blk_below (g := gb228) (o := .cells #[.int .i64 t230, .int .i64 t231, .string t232, .string t233, .int .i64 t234] 23 (0, 0)) (by (with_reducible repeat (first | refine blk_drewN ?_ _ | refine blk_drew ?_ | refine blk_alloc ?_ _)); exact BK228.out) hb)
            have n1_ := Aside0.mk (blk_below (g := gb229) (o := .cells #[.int .i64 t235, .int .i64 t236, .string t237, .string t238, .int .i64 t239] 23 (0, 0)) (by (with_reducible repeat (first | refine blk_drewN ?_ _ | refine blk_drew ?_ | refine blk_alloc ?_ _)); exact BK229.out) hb)
            have n2_ := Aside0.mk (below_step (by repeat (first | (with_reducible first | exact HB.out | apply below_alloc | apply pw_below_drewN | apply below_drew1 | refine below_set ?_ GE228.out | refine below_set ?_ GE229.out) | exact HB.out)) hb)
            clear BK228
            clear BK229
            clear HB
            have BK228 := n0_
            have BK229 := n1_
            have HB := n2_
            clear n0_ n1_ n2_
            (try clear hb)
            (try clear hb2)
            (try clear hk)
            (try clear hi)
            refine hK.out _ _ ⟨(blk_cell BK228.out 0).trans rfl, (blk_cell BK228.out 1).trans rfl, (blk_cell BK228.out 2).trans rfl, (blk_cell BK228.out 3).trans rfl, (blk_cell BK228.out 4).trans rfl, (blk_cell BK229.out 0).trans rfl, (blk_cell BK229.out 1).trans rfl, (blk_cell BK229.out 2).trans rfl, (blk_cell BK229.out 3).trans rfl, (blk_cell BK229.out 4).trans rfl⟩ (fun hHeld => ?_)
            clear hK K
            refine norm_ (a' := ?_) ?_ ?_
            rotate_left
            · show Act.put _ (some 49) _ = _
              simp only [Act.put, List.setIfInBounds_toArray, List.set_cons_zero, List.set_cons_succ, i64_w, i32_w]
              rfl
            refine pure_ (i := 39) (N := some 50) (v := ?_) (a' := ?_) #[true, true, true, true, true, true, true, true, true, true, true, true, true, true, true, true, true, true, true, true, true, true, true, true, true, true, true, true, true, true, true, true, true, true, true, true, true, true, true, true, false] rfl rfl (any_of HT_.out (by kernel_rfl)) (fun _ _ _ h => h) (Or.inl ⟨by rfl, ?_⟩) ?_ ?_
            rotate_left
            · intro w'
              go_simp
              with_reducible rfl
            rotate_left
            · simp only [Act.put, List.setIfInBounds_toArray, List.set_cons_zero, List.set_cons_succ, i64_w, i32_w]
              rfl
            refine pure_ (i := 40) (N := some 6) (v := ?_) (a' := ?_) #[true, true, true, true, true, true, true, true, true, true, true, true, true, true, true, true, true, true, true, true, true, true, true, true, true, true, true, true, true, true, true, true, true, true, true, true, true, true, true, true, true] rfl rfl (any_of HT_.out (by kernel_rfl)) (fun _ _ _ h => h) (Or.inl ⟨by rfl, ?_⟩) ?_ ?_
            rotate_left
            · intro w'
              go_simp
              with_reducible rfl
            rotate_left
            · simp only [Act.put, List.setIfInBounds_toArray, List.set_cons_zero, List.set_cons_succ, i64_w, i32_w]
              rfl
            refine done_ (done_of HT_.out (by kernel_rfl)) ?_
            try go_wp2
            go_ret
            exact ⟨by first | rfl | (simp [errW_none, errW_some] <;> rfl) | (simp [*, errW_none, errW_some] <;> rfl), by repeat (first | (with_reducible first | exact HB.out | apply below_alloc | apply pw_below_drewN | apply below_drew1 | refine below_set ?_ GE228.out | refine below_set ?_ GE229.out) | exact HB.out)⟩
          · rw [if_neg c20] at H
            have c20b0 : (t256 == t257) = false := by simpa using c20
            (try (have c20b1 : decide (t256 = t257) = false := by simpa using c20))
            (try (have c20b2 : (t256 == t257) = false := by simpa using c20))
            (try (have c20b3 : ¬ (t256 = t257) := by simpa using c20))
            clear c20
            exact absurd (Option.some.inj H) (by rw [hr_.out]; decide)
        · rw [if_neg c17] at H
          have c17b0 : (t246 == t251 && (t247 == t252 && (t248.toList == t253.toList && (t249.toList == t254.toList && (t250 == t255))))) = false := by simpa using c17
          (try (have c17b1 : decide (t246 = t251 && (t247 == t252 && (t248.toList == t253.toList && (t249.toList == t254.toList && (t250 == t255))))) = false := by simpa using c17))
          (try (have c17b2 : (t246 == t251 && (t247 == t252 && (t248.toList == t253.toList && (t249.toList == t254.toList && (t250 == t255))))) = false := by simpa using c17))
          (try (have c17b3 : ¬ (t246 = t251 && (t247 == t252 && (t248.toList == t253.toList && (t249.toList == t254.toList && (t250 == t255))))) := by simpa using c17))
          clear c17
          exact absurd (Option.some.inj H) (by rw [hr_.out]; decide)
      · rw [if_neg c14] at H
        have c14b0 : (t244.toList == t245.toList) = false := beq_eq_false_iff_ne.mpr c14
        have c14b1 : (t244.toList != t245.toList) = true := bne_iff_ne.mpr c14
        exact absurd (Option.some.inj H) (by rw [hr_.out]; decide)
    · rw [if_neg c11] at H
      have c11b0 : (t242.toList == t243.toList) = false := beq_eq_false_iff_ne.mpr c11
      have c11b1 : (t242.toList != t243.toList) = true := bne_iff_ne.mpr c11
      exact absurd (Option.some.inj H) (by rw [hr_.out]; decide)
  · rw [if_neg c8] at H
    have c8b0 : (t240 == t241) = false := by simpa using c8
    (try (have c8b1 : decide (t240 = t241) = false := by simpa using c8))
    (try (have c8b2 : (t240 == t241) = false := by simpa using c8))
    (try (have c8b3 : ¬ (t240 = t241) := by simpa using c8))
    clear c8
    exact absurd (Option.some.inj H) (by rw [hr_.out]; decide)
end Go.Proofs.YtdoaomoocikmaaaDoor.Pr
