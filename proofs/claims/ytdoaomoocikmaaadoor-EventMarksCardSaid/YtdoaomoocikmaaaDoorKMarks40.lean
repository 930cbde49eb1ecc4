import Derived.Test.YtdoaomoocikmaaaDoorKMarks32
import Derived.Test.YtdoaomoocikmaaaDoorKMarks36
import Derived.Test.YtdoaomoocikmaaaDoorKMarks37
import Derived.Test.YtdoaomoocikmaaaDoorKMarks38
import Derived.Test.YtdoaomoocikmaaaDoorKMarks39
namespace Go.Proofs.YtdoaomoocikmaaaDoor.Pr
open Go.RowKit Go.Proofs.YtdoaomoocikmaaaDoorW.PrintWords Go.Proofs.YtdoaomoocikmaaaDoorW.PrintLast Go.Proofs.YtdoaomoocikmaaaDoorW.PrintMore
attribute [local go_sem] max2_int min2_int max_two min_two max_three min_three max_four min_four
set_option linter.unusedVariables false
set_option linter.unusedSimpArgs false
def rivuletlaw06_EventMarks.f (k : Nat) (l0 : List (S55)) : Option (Bool) := if 0 ≤ (mn (l0.length : Int) 40) then (if (mn (l0.length : Int) 40) ≤ (l0.length : Int) then ((some (l0.take ((mn (l0.length : Int) 40) : Int).toNat : List (S55))).bind fun y345 => ((event_Sorted.f y345).bind fun t349 => ((rivuletref06_Sorted.f k y345).bind fun t350 => (if (t349 == t350) = true then ((event_Marks.f y345).bind fun t351 => ((rivuletref06_Marks.f k y345).bind fun t352 => (if t351.toList = t352.toList then ((rivuletlaw06_fixed.f k).bind fun t353 => (some t353)) else (some false)))) else (some false))))) else (none)) else (none)
set_option maxHeartbeats 8000000 in
set_option maxRecDepth 100000 in
theorem rivuletlaw06_EventMarks.calls (k : Nat) (A0 : Option Addr) (c0 : Nat) (l0 : List (S55)) (r : Bool) (w : World) (hr0 : Kd.C k55 w A0 l0.length l0) (hc0 : l0.length ≤ c0) (hr_ : Aside0 (r = true)) (h : rivuletlaw06_EventMarks.f k l0 = some r) :
    Calls Tryd.prog 5 #[.slice A0 l0.length c0] w fun e w' => e = .returned (.bool r) ∧ Below w.heap.size w w' := by
  have HR0 := Aside0.mk hr0
  have HC0 := Aside0.mk hc0
  clear hr0 hc0
  have HB := Aside0.mk (Below.refl w.heap.size w)
  have H : (if 0 ≤ (mn (l0.length : Int) 40) then (if (mn (l0.length : Int) 40) ≤ (l0.length : Int) then ((some (l0.take ((mn (l0.length : Int) 40) : Int).toNat : List (S55))).bind fun y345 => ((event_Sorted.f y345).bind fun t349 => ((rivuletref06_Sorted.f k y345).bind fun t350 => (if (t349 == t350) = true then ((event_Marks.f y345).bind fun t351 => ((rivuletref06_Marks.f k y345).bind fun t352 => (if t351.toList = t352.toList then ((rivuletlaw06_fixed.f k).bind fun t353 => (some t353)) else (some false)))) else (some false))))) else (none)) else (none)) = some r := h
  clear h
  obtain ⟨ji2, hji2⟩ : ∃ j_ : Int, (mn (l0.length : Int) 40) = j_ := ⟨_, rfl⟩
  replace H : (if 0 ≤ (ji2) then (if (ji2) ≤ (l0.length : Int) then ((some (l0.take ((ji2) : Int).toNat : List (S55))).bind fun y345 => ((event_Sorted.f y345).bind fun t349 => ((rivuletref06_Sorted.f k y345).bind fun t350 => (if (t349 == t350) = true then ((event_Marks.f y345).bind fun t351 => ((rivuletref06_Marks.f k y345).bind fun t352 => (if t351.toList = t352.toList then ((rivuletlaw06_fixed.f k).bind fun t353 => (some t353)) else (some false)))) else (some false))))) else (none)) else (none)) = some r := by first | (rw [hji2] at H; exact H) | (simp only [hji2] at H ⊢; exact H)
  (try (have hji2h : ji2 ≤ 40 := by (rw [← hji2]; unfold mn; (repeat' split) <;> omega)))
  (try (have hji2g : ji2 ≤ 64 := by omega))
  (try (have hji2l : 0 ≤ ji2 := by (rw [← hji2]; unfold mn; (repeat' split) <;> omega)))
  (try (have hji2m : 0 ≤ ji2 := by omega))
  have hji2_ : (if 40 < (l0.length : Int) then 40 else (l0.length : Int)) = ji2 := hji2
  by_cases c3 : 0 ≤ (ji2)
  · rw [if_pos c3] at H
    have c3b0 := eq_true c3
    have c3b1 : decide (0 ≤ (ji2)) = true := decide_eq_true c3
    clear c3
    by_cases c4 : (ji2) ≤ (l0.length : Int)
    · rw [if_pos c4] at H
      have c4b0 := eq_true c4
      have c4b1 : decide ((ji2) ≤ (l0.length : Int)) = true := decide_eq_true c4
      clear c4
      obtain ⟨y345, hy345⟩ : ∃ y_ : List (S55), y_ = (l0.take ((ji2) : Int).toNat) := ⟨_, rfl⟩
      replace H : ((event_Sorted.f y345).bind fun t349 => ((rivuletref06_Sorted.f k y345).bind fun t350 => (if (t349 == t350) = true then ((event_Marks.f y345).bind fun t351 => ((rivuletref06_Marks.f k y345).bind fun t352 => (if t351.toList = t352.toList then ((rivuletlaw06_fixed.f k).bind fun t353 => (some t353)) else (some false)))) else (some false)))) = some r := by first | (rw [hy345]; with_reducible exact H) | (have H2_ := (Option.bind_some _ _).symm.trans H; rw [hy345]; with_reducible exact H2_) | (have H2_ := (Option.bind_some _ _).symm.trans H; with_reducible exact H2_) | with_reducible exact H | (rw [hy345]; exact H) | exact H
      have Ny345 := Aside0.mk hy345
      clear hy345
      replace H := Option.bind_eq_some_iff.mp H
      obtain ⟨t349, A50, H⟩ := H
      replace H : ((rivuletref06_Sorted.f k y345).bind fun t350 => (if (t349 == t350) = true then ((event_Marks.f y345).bind fun t351 => ((rivuletref06_Marks.f k y345).bind fun t352 => (if t351.toList = t352.toList then ((rivuletlaw06_fixed.f k).bind fun t353 => (some t353)) else (some false)))) else (some false))) = some r := H
      have A5 := Aside0.mk A50
      clear A50
      replace H := Option.bind_eq_some_iff.mp H
      obtain ⟨t350, A60, H⟩ := H
      replace H : (if (t349 == t350) = true then ((event_Marks.f y345).bind fun t351 => ((rivuletref06_Marks.f k y345).bind fun t352 => (if t351.toList = t352.toList then ((rivuletlaw06_fixed.f k).bind fun t353 => (some t353)) else (some false)))) else (some false)) = some r := H
      have A6 := Aside0.mk A60
      clear A60
      by_cases c7 : (t349 == t350) = true
      · rw [if_pos c7] at H
        have c7b0 : (t349 == t350) = true := c7
        (try (have c7b1 : decide (t349 = t350) = true := by simpa using c7))
        (try (have c7b2 : (t349 == t350) = true := by simpa using c7))
        clear c7
        replace H := Option.bind_eq_some_iff.mp H
        obtain ⟨t351, A80, H⟩ := H
        replace H : ((rivuletref06_Marks.f k y345).bind fun t352 => (if t351.toList = t352.toList then ((rivuletlaw06_fixed.f k).bind fun t353 => (some t353)) else (some false))) = some r := H
        have A8 := Aside0.mk A80
        clear A80
        replace H := Option.bind_eq_some_iff.mp H
        obtain ⟨t352, A90, H⟩ := H
        replace H : (if t351.toList = t352.toList then ((rivuletlaw06_fixed.f k).bind fun t353 => (some t353)) else (some false)) = some r := H
        have A9 := Aside0.mk A90
        clear A90
        by_cases c10 : t351.toList = t352.toList
        · rw [if_pos c10] at H
          have c10b0 : (t351.toList == t352.toList) = true := beq_iff_eq.mpr c10
          have c10b1 : (t351.toList != t352.toList) = false := bne_eq_false_iff_eq.mpr c10
          clear c10
          replace H := Option.bind_eq_some_iff.mp H
          obtain ⟨t353, A110, H⟩ := H
          replace H : (some t353) = some r := H
          have A11 := Aside0.mk A110
          clear A110
          obtain rfl := Option.some.inj H
          have q12 : ((ji2) : Int) ≤ ((l0.length : Int) : Int) := of_decide_eq_true (by first | (with_reducible assumption) | assumption)
          obtain ⟨i012, hi012, _, hsz12, _⟩ := info_parts info55
          have hroom12 : l0.length ≤ c0 := HC0.out
          have hC12 : Kd.C k55 _ A0 l0.length l0 := HR0.out
          have hcut12 := cut_to (P := Tryd.prog) 34 55 .i64 Tryd.underlying34 hi012 A0 l0.length c0 (ji2) (of_decide_eq_true (by first | (with_reducible assumption) | assumption)) q12 hroom12
          have hr12 := Kd.C_take (m := ((ji2) : Int).toNat) hC12 (by omega)
          have hy12 : y345.length = ((ji2) : Int).toNat := (by rw [Ny345.out, List.length_take]; omega)
          rw [← Ny345.out] at hr12
          rw [← hy12] at hcut12
          have HR348 := Aside0.mk hr12
          have HC348 := Aside0.mk (show y345.length ≤ c0 from by omega)
          clear hr12 hC12 hroom12 hi012 hsz12
          have KY12 := Aside0.mk hy12
          clear hy12
          replace q12 := eq_true q12
          go_enter Tryd.func5, Tryd.ntmps5
          go_wp2_with (first | ((with_reducible refine gate_callee (f := 27) rfl ?_); refine goesL_ (some 9) rfl rfl Tryd.func27 (by kernel_rfl) rfl #[.slice A0 y345.length c0] rfl (by (try simp only [List.map_toArray, List.map_cons, List.map_nil]); first | done | rfl | (simp only [List.length_drop, List.length_take]; rfl)) ?_; (with_reducible refine (event_Sorted.calls _ _ y345 t349 _ ?side1 ?side2 A5.out).mono ?_); (case side1 => repeat (first | exact HR348.out | (with_reducible refine Kd.C_alloc ?_ _) | (with_reducible refine Kd.C_drewN ?_ _) | (with_reducible refine Kd.C_drew ?_))); (case side2 => exact HC348.out); rintro e w13 ⟨rfl, hb⟩; refine ⟨_, rfl, ?_⟩; have n0_ := Aside0.mk (below_step (by repeat (first | (with_reducible first | exact HB.out | apply below_alloc | apply pw_below_drewN | apply below_drew1) | exact HB.out)) hb); clear HB; have HB := n0_; clear n0_; (try clear hb); (try clear hb2); (try clear hk); (try clear hi)) | ((with_reducible refine gate_callee (f := 28) rfl ?_); refine goesL_ (some 11) rfl rfl Tryd.func28 (by kernel_rfl) rfl #[.slice A0 y345.length c0] rfl (by (try simp only [List.map_toArray, List.map_cons, List.map_nil]); first | done | rfl | (simp only [List.length_drop, List.length_take]; rfl)) ?_; (with_reducible refine (rivuletref06_Sorted.calls k _ _ y345 t350 _ ?side1 ?side2 A6.out).mono ?_); (case side1 => repeat (first | exact (Kd.C_below HR348.out HB.out) | (with_reducible refine Kd.C_alloc ?_ _) | (with_reducible refine Kd.C_drewN ?_ _) | (with_reducible refine Kd.C_drew ?_))); (case side2 => exact HC348.out); rintro e w14 ⟨rfl, hb⟩; refine ⟨_, rfl, ?_⟩; have n0_ := Aside0.mk (below_step (by repeat (first | (with_reducible first | exact HB.out | apply below_alloc | apply pw_below_drewN | apply below_drew1) | exact HB.out)) hb); clear HB; have HB := n0_; clear n0_; (try clear hb); (try clear hb2); (try clear hk); (try clear hi)) | (go_at_call 29; (with_reducible refine (event_Marks.calls _ _ y345 t351 _ ?side1 ?side2 A8.out).mono ?_); (case side1 => repeat (first | exact (Kd.C_below HR348.out HB.out) | (with_reducible refine Kd.C_alloc ?_ _) | (with_reducible refine Kd.C_drewN ?_ _) | (with_reducible refine Kd.C_drew ?_))); (case side2 => exact HC348.out); rintro e w15 ⟨rfl, hb⟩; have n0_ := Aside0.mk (below_step (by repeat (first | (with_reducible first | exact HB.out | apply below_alloc | apply pw_below_drewN | apply below_drew1) | exact HB.out)) hb); clear HB; have HB := n0_; clear n0_; (try clear hb); (try clear hb2); (try clear hk); (try clear hi)) | (go_at_call 30; (with_reducible refine (rivuletref06_Marks.calls k _ _ y345 t352 _ ?side1 ?side2 A9.out).mono ?_); (case side1 => repeat (first | exact (Kd.C_below HR348.out HB.out) | (with_reducible refine Kd.C_alloc ?_ _) | (with_reducible refine Kd.C_drewN ?_ _) | (with_reducible refine Kd.C_drew ?_))); (case side2 => exact HC348.out); rintro e w16 ⟨rfl, hb⟩; have n0_ := Aside0.mk (below_step (by repeat (first | (with_reducible first | exact HB.out | apply below_alloc | apply pw_below_drewN | apply below_drew1) | exact HB.out)) hb); clear HB; have HB := n0_; clear n0_; (try clear hb); (try clear hb2); (try clear hk); (try clear hi)) | (go_at_call 21; (with_reducible refine (rivuletlaw06_fixed.calls k  t353 _ A11.out).mono ?_); rintro e w17 ⟨rfl, hb⟩; have n0_ := Aside0.mk (below_step (by repeat (first | (with_reducible first | exact HB.out | apply below_alloc | apply pw_below_drewN | apply below_drew1) | exact HB.out)) hb); clear HB; have HB := n0_; clear n0_; (try clear hb); (try clear hb2); (try clear hk); (try clear hi)))
          go_ret
          exact ⟨by first | rfl | (simp [errW_none, errW_some] <;> rfl) | (simp only [← hji2]; first | rfl | (simp [errW_none, errW_some] <;> rfl)) | (simp [*, errW_none, errW_some] <;> rfl), by repeat (first | (with_reducible first | exact HB.out | apply below_alloc | apply pw_below_drewN | apply below_drew1) | exact HB.out)⟩
        · rw [if_neg c10] at H
          have c10b0 : (t351.toList == t352.toList) = false := beq_eq_false_iff_ne.mpr c10
          have c10b1 : (t351.toList != t352.toList) = true := bne_iff_ne.mpr c10
          exact absurd (Option.some.inj H) (by rw [hr_.out]; decide)
      · rw [if_neg c7] at H
        have c7b0 : (t349 == t350) = false := by simpa using c7
        (try (have c7b1 : decide (t349 = t350) = false := by simpa using c7))
        (try (have c7b2 : (t349 == t350) = false := by simpa using c7))
        (try (have c7b3 : ¬ (t349 = t350) := by simpa using c7))
        clear c7
        exact absurd (Option.some.inj H) (by rw [hr_.out]; decide)
    · rw [if_neg c4] at H
      exact absurd H (by simp)
  · rw [if_neg c3] at H
    exact absurd H (by simp)
end Go.Proofs.YtdoaomoocikmaaaDoor.Pr
