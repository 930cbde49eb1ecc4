-- Printed by this session's changed copy of the kit's printer (wip/tools/mkprint.py; some functions are given by hand). Lean checks it.
import Derived.Test.YtfakimleoihfgaaDoorPr0
namespace Go.Proofs.YtfakimleoihfgaaDoor.Pr
open Go.RowKit Go.Proofs.YtfakimleoihfgaaDoorW.PrintWords Go.Proofs.YtfakimleoihfgaaDoorW.PrintLast Go.Proofs.YtfakimleoihfgaaDoorW.PrintMore
attribute [local go_sem] max2_int min2_int max_two min_two max_three min_three max_four min_four   -- for this text's walks alone
set_option linter.unusedVariables false
set_option linter.unusedSimpArgs false

/-! ### rivuletlaw03_TopicLess: function 8 -/
def rivuletlaw03_TopicLess.f (a0 : ByteArray) (a1 : ByteArray) (a2 : ByteArray) : Option (Bool) := if 0 ≤ (mn (a0.size : Int) 200) then (if (mn (a0.size : Int) 200) ≤ (a0.size : Int) then (if 0 ≤ (mn (a1.size : Int) 200) then (if (mn (a1.size : Int) 200) ≤ (a1.size : Int) then (if 0 ≤ (mn (a2.size : Int) 200) then (if (mn (a2.size : Int) 200) ≤ (a2.size : Int) then ((topic_Less.f (a0.extract 0 ((mn (a0.size : Int) 200) : Int).toNat) (a1.extract 0 ((mn (a1.size : Int) 200) : Int).toNat)).bind fun t272 => ((topic_Less.f (a1.extract 0 ((mn (a1.size : Int) 200) : Int).toNat) (a0.extract 0 ((mn (a0.size : Int) 200) : Int).toNat)).bind fun t273 => (if t272 = true then (if t273 = true then (some false) else (if (true == ((a0.extract 0 ((mn (a0.size : Int) 200) : Int).toNat).toList != (a1.extract 0 ((mn (a1.size : Int) 200) : Int).toNat).toList)) = true then ((topic_Less.f (a1.extract 0 ((mn (a1.size : Int) 200) : Int).toNat) (a2.extract 0 ((mn (a2.size : Int) 200) : Int).toNat)).bind fun t274 => (if t274 = true then ((topic_Less.f (a0.extract 0 ((mn (a0.size : Int) 200) : Int).toNat) (a2.extract 0 ((mn (a2.size : Int) 200) : Int).toNat)).bind fun t275 => (if t275 = true then ((rivuletlaw03_fixed.f).bind fun t276 => (some t276)) else (some false))) else ((rivuletlaw03_fixed.f).bind fun t277 => (some t277)))) else (some false))) else (if (t273 == ((a0.extract 0 ((mn (a0.size : Int) 200) : Int).toNat).toList != (a1.extract 0 ((mn (a1.size : Int) 200) : Int).toNat).toList)) = true then ((rivuletlaw03_fixed.f).bind fun t278 => (some t278)) else (some false))))) else (none)) else (none)) else (none)) else (none)) else (none)) else (none)
set_option maxHeartbeats 8000000 in
set_option maxRecDepth 100000 in
theorem rivuletlaw03_TopicLess.calls (a0 : ByteArray) (a1 : ByteArray) (a2 : ByteArray) (r : Bool) (w : World) (h : rivuletlaw03_TopicLess.f a0 a1 a2 = some r) :
    Calls Tryd.prog 8 #[.string a0, .string a1, .string a2] w fun e w' => e = .returned (.bool r) ∧ Below w.heap.size w w' := by
  have HB := Aside0.mk (Below.refl w.heap.size w)
  have H : (if 0 ≤ (mn (a0.size : Int) 200) then (if (mn (a0.size : Int) 200) ≤ (a0.size : Int) then (if 0 ≤ (mn (a1.size : Int) 200) then (if (mn (a1.size : Int) 200) ≤ (a1.size : Int) then (if 0 ≤ (mn (a2.size : Int) 200) then (if (mn (a2.size : Int) 200) ≤ (a2.size : Int) then ((topic_Less.f (a0.extract 0 ((mn (a0.size : Int) 200) : Int).toNat) (a1.extract 0 ((mn (a1.size : Int) 200) : Int).toNat)).bind fun t272 => ((topic_Less.f (a1.extract 0 ((mn (a1.size : Int) 200) : Int).toNat) (a0.extract 0 ((mn (a0.size : Int) 200) : Int).toNat)).bind fun t273 => (if t272 = true then (if t273 = true then (some false) else (if (true == ((a0.extract 0 ((mn (a0.size : Int) 200) : Int).toNat).toList != (a1.extract 0 ((mn (a1.size : Int) 200) : Int).toNat).toList)) = true then ((topic_Less.f (a1.extract 0 ((mn (a1.size : Int) 200) : Int).toNat) (a2.extract 0 ((mn (a2.size : Int) 200) : Int).toNat)).bind fun t274 => (if t274 = true then ((topic_Less.f (a0.extract 0 ((mn (a0.size : Int) 200) : Int).toNat) (a2.extract 0 ((mn (a2.size : Int) 200) : Int).toNat)).bind fun t275 => (if t275 = true then ((rivuletlaw03_fixed.f).bind fun t276 => (some t276)) else (some false))) else ((rivuletlaw03_fixed.f).bind fun t277 => (some t277)))) else (some false))) else (if (t273 == ((a0.extract 0 ((mn (a0.size : Int) 200) : Int).toNat).toList != (a1.extract 0 ((mn (a1.size : Int) 200) : Int).toNat).toList)) = true then ((rivuletlaw03_fixed.f).bind fun t278 => (some t278)) else (some false))))) else (none)) else (none)) else (none)) else (none)) else (none)) else (none)) = some r := h
  clear h
  obtain ⟨ji4, hji4⟩ : ∃ j_ : Int, (mn (a0.size : Int) 200) = j_ := ⟨_, rfl⟩
  replace H : (if 0 ≤ (ji4) then (if (ji4) ≤ (a0.size : Int) then (if 0 ≤ (mn (a1.size : Int) 200) then (if (mn (a1.size : Int) 200) ≤ (a1.size : Int) then (if 0 ≤ (mn (a2.size : Int) 200) then (if (mn (a2.size : Int) 200) ≤ (a2.size : Int) then ((topic_Less.f (a0.extract 0 ((ji4) : Int).toNat) (a1.extract 0 ((mn (a1.size : Int) 200) : Int).toNat)).bind fun t272 => ((topic_Less.f (a1.extract 0 ((mn (a1.size : Int) 200) : Int).toNat) (a0.extract 0 ((ji4) : Int).toNat)).bind fun t273 => (if t272 = true then (if t273 = true then (some false) else (if (true == ((a0.extract 0 ((ji4) : Int).toNat).toList != (a1.extract 0 ((mn (a1.size : Int) 200) : Int).toNat).toList)) = true then ((topic_Less.f (a1.extract 0 ((mn (a1.size : Int) 200) : Int).toNat) (a2.extract 0 ((mn (a2.size : Int) 200) : Int).toNat)).bind fun t274 => (if t274 = true then ((topic_Less.f (a0.extract 0 ((ji4) : Int).toNat) (a2.extract 0 ((mn (a2.size : Int) 200) : Int).toNat)).bind fun t275 => (if t275 = true then ((rivuletlaw03_fixed.f).bind fun t276 => (some t276)) else (some false))) else ((rivuletlaw03_fixed.f).bind fun t277 => (some t277)))) else (some false))) else (if (t273 == ((a0.extract 0 ((ji4) : Int).toNat).toList != (a1.extract 0 ((mn (a1.size : Int) 200) : Int).toNat).toList)) = true then ((rivuletlaw03_fixed.f).bind fun t278 => (some t278)) else (some false))))) else (none)) else (none)) else (none)) else (none)) else (none)) else (none)) = some r := by first | (rw [hji4] at H; exact H) | (simp only [hji4] at H ⊢; exact H)
  (try (have hji4h : ji4 ≤ 200 := by (rw [← hji4]; unfold mn; (repeat' split) <;> omega)))
  (try (have hji4g : ji4 ≤ 64 := by omega))
  (try (have hji4l : 0 ≤ ji4 := by (rw [← hji4]; unfold mn; (repeat' split) <;> omega)))
  (try (have hji4m : 0 ≤ ji4 := by omega))
  have hji4_ : (if 200 < (a0.size : Int) then 200 else (a0.size : Int)) = ji4 := hji4
  obtain ⟨Sji4, hSji4⟩ : ∃ S_ : ByteArray, a0.extract 0 (ji4 : Int).toNat = S_ := ⟨_, rfl⟩
  simp only [hSji4] at H
  by_cases c5 : 0 ≤ (ji4)
  · rw [if_pos c5] at H
    have c5b0 := eq_true c5
    have c5b1 : decide (0 ≤ (ji4)) = true := decide_eq_true c5
    clear c5
    by_cases c6 : (ji4) ≤ (a0.size : Int)
    · rw [if_pos c6] at H
      have c6b0 := eq_true c6
      have c6b1 : decide ((ji4) ≤ (a0.size : Int)) = true := decide_eq_true c6
      clear c6
      obtain ⟨ji7, hji7⟩ : ∃ j_ : Int, (mn (a1.size : Int) 200) = j_ := ⟨_, rfl⟩
      replace H : (if 0 ≤ (ji7) then (if (ji7) ≤ (a1.size : Int) then (if 0 ≤ (mn (a2.size : Int) 200) then (if (mn (a2.size : Int) 200) ≤ (a2.size : Int) then ((topic_Less.f Sji4 (a1.extract 0 ((ji7) : Int).toNat)).bind fun t272 => ((topic_Less.f (a1.extract 0 ((ji7) : Int).toNat) Sji4).bind fun t273 => (if t272 = true then (if t273 = true then (some false) else (if (true == (Sji4.toList != (a1.extract 0 ((ji7) : Int).toNat).toList)) = true then ((topic_Less.f (a1.extract 0 ((ji7) : Int).toNat) (a2.extract 0 ((mn (a2.size : Int) 200) : Int).toNat)).bind fun t274 => (if t274 = true then ((topic_Less.f Sji4 (a2.extract 0 ((mn (a2.size : Int) 200) : Int).toNat)).bind fun t275 => (if t275 = true then ((rivuletlaw03_fixed.f).bind fun t276 => (some t276)) else (some false))) else ((rivuletlaw03_fixed.f).bind fun t277 => (some t277)))) else (some false))) else (if (t273 == (Sji4.toList != (a1.extract 0 ((ji7) : Int).toNat).toList)) = true then ((rivuletlaw03_fixed.f).bind fun t278 => (some t278)) else (some false))))) else (none)) else (none)) else (none)) else (none)) = some r := by first | (rw [hji7] at H; exact H) | (simp only [hji7] at H ⊢; exact H)
      (try (have hji7h : ji7 ≤ 200 := by (rw [← hji7]; unfold mn; (repeat' split) <;> omega)))
      (try (have hji7g : ji7 ≤ 64 := by omega))
      (try (have hji7l : 0 ≤ ji7 := by (rw [← hji7]; unfold mn; (repeat' split) <;> omega)))
      (try (have hji7m : 0 ≤ ji7 := by omega))
      have hji7_ : (if 200 < (a1.size : Int) then 200 else (a1.size : Int)) = ji7 := hji7
      obtain ⟨Sji7, hSji7⟩ : ∃ S_ : ByteArray, a1.extract 0 (ji7 : Int).toNat = S_ := ⟨_, rfl⟩
      simp only [hSji7] at H
      by_cases c8 : 0 ≤ (ji7)
      · rw [if_pos c8] at H
        have c8b0 := eq_true c8
        have c8b1 : decide (0 ≤ (ji7)) = true := decide_eq_true c8
        clear c8
        by_cases c9 : (ji7) ≤ (a1.size : Int)
        · rw [if_pos c9] at H
          have c9b0 := eq_true c9
          have c9b1 : decide ((ji7) ≤ (a1.size : Int)) = true := decide_eq_true c9
          clear c9
          obtain ⟨ji10, hji10⟩ : ∃ j_ : Int, (mn (a2.size : Int) 200) = j_ := ⟨_, rfl⟩
          replace H : (if 0 ≤ (ji10) then (if (ji10) ≤ (a2.size : Int) then ((topic_Less.f Sji4 Sji7).bind fun t272 => ((topic_Less.f Sji7 Sji4).bind fun t273 => (if t272 = true then (if t273 = true then (some false) else (if (true == (Sji4.toList != Sji7.toList)) = true then ((topic_Less.f Sji7 (a2.extract 0 ((ji10) : Int).toNat)).bind fun t274 => (if t274 = true then ((topic_Less.f Sji4 (a2.extract 0 ((ji10) : Int).toNat)).bind fun t275 => (if t275 = true then ((rivuletlaw03_fixed.f).bind fun t276 => (some t276)) else (some false))) else ((rivuletlaw03_fixed.f).bind fun t277 => (some t277)))) else (some false))) else (if (t273 == (Sji4.toList != Sji7.toList)) = true then ((rivuletlaw03_fixed.f).bind fun t278 => (some t278)) else (some false))))) else (none)) else (none)) = some r := by first | (rw [hji10] at H; exact H) | (simp only [hji10] at H ⊢; exact H)
          (try (have hji10h : ji10 ≤ 200 := by (rw [← hji10]; unfold mn; (repeat' split) <;> omega)))
          (try (have hji10g : ji10 ≤ 64 := by omega))
          (try (have hji10l : 0 ≤ ji10 := by (rw [← hji10]; unfold mn; (repeat' split) <;> omega)))
          (try (have hji10m : 0 ≤ ji10 := by omega))
          have hji10_ : (if 200 < (a2.size : Int) then 200 else (a2.size : Int)) = ji10 := hji10
          obtain ⟨Sji10, hSji10⟩ : ∃ S_ : ByteArray, a2.extract 0 (ji10 : Int).toNat = S_ := ⟨_, rfl⟩
          simp only [hSji10] at H
          by_cases c11 : 0 ≤ (ji10)
          · rw [if_pos c11] at H
            have c11b0 := eq_true c11
            have c11b1 : decide (0 ≤ (ji10)) = true := decide_eq_true c11
            clear c11
            by_cases c12 : (ji10) ≤ (a2.size : Int)
            · rw [if_pos c12] at H
              have c12b0 := eq_true c12
              have c12b1 : decide ((ji10) ≤ (a2.size : Int)) = true := decide_eq_true c12
              clear c12
              replace H := Option.bind_eq_some_iff.mp H
              obtain ⟨t272, A130, H⟩ := H
              replace H : ((topic_Less.f Sji7 Sji4).bind fun t273 => (if t272 = true then (if t273 = true then (some false) else (if (true == (Sji4.toList != Sji7.toList)) = true then ((topic_Less.f Sji7 Sji10).bind fun t274 => (if t274 = true then ((topic_Less.f Sji4 Sji10).bind fun t275 => (if t275 = true then ((rivuletlaw03_fixed.f).bind fun t276 => (some t276)) else (some false))) else ((rivuletlaw03_fixed.f).bind fun t277 => (some t277)))) else (some false))) else (if (t273 == (Sji4.toList != Sji7.toList)) = true then ((rivuletlaw03_fixed.f).bind fun t278 => (some t278)) else (some false)))) = some r := H
              have A13 := Aside0.mk A130
              clear A130
              replace H := Option.bind_eq_some_iff.mp H
              obtain ⟨t273, A140, H⟩ := H
              replace H : (if t272 = true then (if t273 = true then (some false) else (if (true == (Sji4.toList != Sji7.toList)) = true then ((topic_Less.f Sji7 Sji10).bind fun t274 => (if t274 = true then ((topic_Less.f Sji4 Sji10).bind fun t275 => (if t275 = true then ((rivuletlaw03_fixed.f).bind fun t276 => (some t276)) else (some false))) else ((rivuletlaw03_fixed.f).bind fun t277 => (some t277)))) else (some false))) else (if (t273 == (Sji4.toList != Sji7.toList)) = true then ((rivuletlaw03_fixed.f).bind fun t278 => (some t278)) else (some false))) = some r := H
              have A14 := Aside0.mk A140
              clear A140
              by_cases c15 : t272 = true
              · subst c15
                have H1 : (if t273 = true then (some false) else (if (true == (Sji4.toList != Sji7.toList)) = true then ((topic_Less.f Sji7 Sji10).bind fun t274 => (if t274 = true then ((topic_Less.f Sji4 Sji10).bind fun t275 => (if t275 = true then ((rivuletlaw03_fixed.f).bind fun t276 => (some t276)) else (some false))) else ((rivuletlaw03_fixed.f).bind fun t277 => (some t277)))) else (some false))) = some r := by rw [if_pos rfl] at H; exact H
                clear H
                have H := H1
                clear H1
                by_cases c16 : t273 = true
                · subst c16
                  have H1 : (some false) = some r := by rw [if_pos rfl] at H; exact H
                  clear H
                  have H := H1
                  clear H1
                  obtain rfl := Option.some.inj H
                  go_enter Tryd.func8, Tryd.ntmps8
                  go_wp2_with (first | ((with_reducible refine gate_callee (f := 18) rfl ?_); refine goesL_ (some 26) rfl rfl Tryd.func18 (by kernel_rfl) rfl #[.string Sji4, .string Sji7] rfl (by (try simp only [List.map_toArray, List.map_cons, List.map_nil]); first | done | (simp only [hji4, hji7]; rfl) | rfl | (simp only [List.length_drop, List.length_take]; rfl)) ?_; (with_reducible refine (topic_Less.calls Sji4 Sji7 true _ A13.out).mono ?_); rintro e w17 ⟨rfl, hb⟩; refine ⟨_, rfl, ?_⟩; have n0_ := Aside0.mk (below_step (by repeat (first | (with_reducible first | exact HB.out | apply below_alloc | apply pw_below_drewN | apply below_drew1) | exact HB.out)) hb); clear HB; have HB := n0_; clear n0_; (try clear hb); (try clear hb2); (try clear hk); (try clear hi)) | ((with_reducible refine gate_callee (f := 18) rfl ?_); refine goesL_ (some 29) rfl rfl Tryd.func18 (by kernel_rfl) rfl #[.string Sji7, .string Sji4] rfl (by (try simp only [List.map_toArray, List.map_cons, List.map_nil]); first | done | (simp only [hji4, hji7]; rfl) | rfl | (simp only [List.length_drop, List.length_take]; rfl)) ?_; (with_reducible refine (topic_Less.calls Sji7 Sji4 true _ A14.out).mono ?_); rintro e w18 ⟨rfl, hb⟩; refine ⟨_, rfl, ?_⟩; have n0_ := Aside0.mk (below_step (by repeat (first | (with_reducible first | exact HB.out | apply below_alloc | apply pw_below_drewN | apply below_drew1) | exact HB.out)) hb); clear HB; have HB := n0_; clear n0_; (try clear hb); (try clear hb2); (try clear hk); (try clear hi)))
                  go_ret
                  exact ⟨by first | rfl | (simp [errW_none, errW_some] <;> rfl) | (simp only [← hji4, ← hji7, ← hji10]; first | rfl | (simp [errW_none, errW_some] <;> rfl)) | (simp [*, errW_none, errW_some] <;> rfl), by repeat (first | (with_reducible first | exact HB.out | apply below_alloc | apply pw_below_drewN | apply below_drew1) | exact HB.out)⟩
                · replace c16 := Bool.eq_false_iff.mpr c16
                  subst c16
                  have H1 : (if (true == (Sji4.toList != Sji7.toList)) = true then ((topic_Less.f Sji7 Sji10).bind fun t274 => (if t274 = true then ((topic_Less.f Sji4 Sji10).bind fun t275 => (if t275 = true then ((rivuletlaw03_fixed.f).bind fun t276 => (some t276)) else (some false))) else ((rivuletlaw03_fixed.f).bind fun t277 => (some t277)))) else (some false)) = some r := by rw [if_neg (show ¬ (false = true) by decide)] at H; exact H
                  clear H
                  have H := H1
                  clear H1
                  by_cases c19 : (true == (Sji4.toList != Sji7.toList)) = true
                  · rw [if_pos c19] at H
                    have c19b0 : (true == (Sji4.toList != Sji7.toList)) = true := c19
                    have c19n : (Sji4.toList == Sji7.toList) = false := by have h_ := c19b0; unfold bne at h_; revert h_; cases (Sji4.toList == Sji7.toList) <;> decide
                    (try (have c19b1 : decide (true = (Sji4.toList != Sji7.toList)) = true := by simpa using c19))
                    (try (have c19b2 : (true == (Sji4.toList != Sji7.toList)) = true := by simpa using c19))
                    clear c19
                    replace H := Option.bind_eq_some_iff.mp H
                    obtain ⟨t274, A200, H⟩ := H
                    replace H : (if t274 = true then ((topic_Less.f Sji4 Sji10).bind fun t275 => (if t275 = true then ((rivuletlaw03_fixed.f).bind fun t276 => (some t276)) else (some false))) else ((rivuletlaw03_fixed.f).bind fun t277 => (some t277))) = some r := H
                    have A20 := Aside0.mk A200
                    clear A200
                    by_cases c21 : t274 = true
                    · subst c21
                      have H1 : ((topic_Less.f Sji4 Sji10).bind fun t275 => (if t275 = true then ((rivuletlaw03_fixed.f).bind fun t276 => (some t276)) else (some false))) = some r := by rw [if_pos rfl] at H; exact H
                      clear H
                      have H := H1
                      clear H1
                      replace H := Option.bind_eq_some_iff.mp H
                      obtain ⟨t275, A220, H⟩ := H
                      replace H : (if t275 = true then ((rivuletlaw03_fixed.f).bind fun t276 => (some t276)) else (some false)) = some r := H
                      have A22 := Aside0.mk A220
                      clear A220
                      by_cases c23 : t275 = true
                      · subst c23
                        have H1 : ((rivuletlaw03_fixed.f).bind fun t276 => (some t276)) = some r := by rw [if_pos rfl] at H; exact H
                        clear H
                        have H := H1
                        clear H1
                        replace H := Option.bind_eq_some_iff.mp H
                        obtain ⟨t276, A240, H⟩ := H
                        replace H : (some t276) = some r := H
                        have A24 := Aside0.mk A240
                        clear A240
                        obtain rfl := Option.some.inj H
                        go_enter Tryd.func8, Tryd.ntmps8
                        go_wp2_with (first | ((with_reducible refine gate_callee (f := 18) rfl ?_); refine goesL_ (some 26) rfl rfl Tryd.func18 (by kernel_rfl) rfl #[.string Sji4, .string Sji7] rfl (by (try simp only [List.map_toArray, List.map_cons, List.map_nil]); first | done | (simp only [hji4, hji7]; rfl) | rfl | (simp only [List.length_drop, List.length_take]; rfl)) ?_; (with_reducible refine (topic_Less.calls Sji4 Sji7 true _ A13.out).mono ?_); rintro e w25 ⟨rfl, hb⟩; refine ⟨_, rfl, ?_⟩; have n0_ := Aside0.mk (below_step (by repeat (first | (with_reducible first | exact HB.out | apply below_alloc | apply pw_below_drewN | apply below_drew1) | exact HB.out)) hb); clear HB; have HB := n0_; clear n0_; (try clear hb); (try clear hb2); (try clear hk); (try clear hi)) | ((with_reducible refine gate_callee (f := 18) rfl ?_); refine goesL_ (some 29) rfl rfl Tryd.func18 (by kernel_rfl) rfl #[.string Sji7, .string Sji4] rfl (by (try simp only [List.map_toArray, List.map_cons, List.map_nil]); first | done | (simp only [hji4, hji7]; rfl) | rfl | (simp only [List.length_drop, List.length_take]; rfl)) ?_; (with_reducible refine (topic_Less.calls Sji7 Sji4 false _ A14.out).mono ?_); rintro e w26 ⟨rfl, hb⟩; refine ⟨_, rfl, ?_⟩; have n0_ := Aside0.mk (below_step (by repeat (first | (with_reducible first | exact HB.out | apply below_alloc | apply pw_below_drewN | apply below_drew1) | exact HB.out)) hb); clear HB; have HB := n0_; clear n0_; (try clear hb); (try clear hb2); (try clear hk); (try clear hi)) | (go_at_call 18; (with_reducible refine (topic_Less.calls Sji7 Sji10 true _ A20.out).mono ?_); rintro e w27 ⟨rfl, hb⟩; have n0_ := Aside0.mk (below_step (by repeat (first | (with_reducible first | exact HB.out | apply below_alloc | apply pw_below_drewN | apply below_drew1) | exact HB.out)) hb); clear HB; have HB := n0_; clear n0_; (try clear hb); (try clear hb2); (try clear hk); (try clear hi)) | (go_at_call 18; (with_reducible refine (topic_Less.calls Sji4 Sji10 true _ A22.out).mono ?_); rintro e w28 ⟨rfl, hb⟩; have n0_ := Aside0.mk (below_step (by repeat (first | (with_reducible first | exact HB.out | apply below_alloc | apply pw_below_drewN | apply below_drew1) | exact HB.out)) hb); clear HB; have HB := n0_; clear n0_; (try clear hb); (try clear hb2); (try clear hk); (try clear hi)) | (go_at_call 20; (with_reducible refine (rivuletlaw03_fixed.calls  t276 _ A24.out).mono ?_); rintro e w29 ⟨rfl, hb⟩; have n0_ := Aside0.mk (below_step (by repeat (first | (with_reducible first | exact HB.out | apply below_alloc | apply pw_below_drewN | apply below_drew1) | exact HB.out)) hb); clear HB; have HB := n0_; clear n0_; (try clear hb); (try clear hb2); (try clear hk); (try clear hi)))
                        go_ret
                        exact ⟨by first | rfl | (simp [errW_none, errW_some] <;> rfl) | (simp only [← hji4, ← hji7, ← hji10]; first | rfl | (simp [errW_none, errW_some] <;> rfl)) | (simp [*, errW_none, errW_some] <;> rfl), by repeat (first | (with_reducible first | exact HB.out | apply below_alloc | apply pw_below_drewN | apply below_drew1) | exact HB.out)⟩
                      · replace c23 := Bool.eq_false_iff.mpr c23
                        subst c23
                        have H1 : (some false) = some r := by rw [if_neg (show ¬ (false = true) by decide)] at H; exact H
                        clear H
                        have H := H1
                        clear H1
                        obtain rfl := Option.some.inj H
                        go_enter Tryd.func8, Tryd.ntmps8
                        go_wp2_with (first | ((with_reducible refine gate_callee (f := 18) rfl ?_); refine goesL_ (some 26) rfl rfl Tryd.func18 (by kernel_rfl) rfl #[.string Sji4, .string Sji7] rfl (by (try simp only [List.map_toArray, List.map_cons, List.map_nil]); first | done | (simp only [hji4, hji7]; rfl) | rfl | (simp only [List.length_drop, List.length_take]; rfl)) ?_; (with_reducible refine (topic_Less.calls Sji4 Sji7 true _ A13.out).mono ?_); rintro e w30 ⟨rfl, hb⟩; refine ⟨_, rfl, ?_⟩; have n0_ := Aside0.mk (below_step (by repeat (first | (with_reducible first | exact HB.out | apply below_alloc | apply pw_below_drewN | apply below_drew1) | exact HB.out)) hb); clear HB; have HB := n0_; clear n0_; (try clear hb); (try clear hb2); (try clear hk); (try clear hi)) | ((with_reducible refine gate_callee (f := 18) rfl ?_); refine goesL_ (some 29) rfl rfl Tryd.func18 (by kernel_rfl) rfl #[.string Sji7, .string Sji4] rfl (by (try simp only [List.map_toArray, List.map_cons, List.map_nil]); first | done | (simp only [hji4, hji7]; rfl) | rfl | (simp only [List.length_drop, List.length_take]; rfl)) ?_; (with_reducible refine (topic_Less.calls Sji7 Sji4 false _ A14.out).mono ?_); rintro e w31 ⟨rfl, hb⟩; refine ⟨_, rfl, ?_⟩; have n0_ := Aside0.mk (below_step (by repeat (first | (with_reducible first | exact HB.out | apply below_alloc | apply pw_below_drewN | apply below_drew1) | exact HB.out)) hb); clear HB; have HB := n0_; clear n0_; (try clear hb); (try clear hb2); (try clear hk); (try clear hi)) | (go_at_call 18; (with_reducible refine (topic_Less.calls Sji7 Sji10 true _ A20.out).mono ?_); rintro e w32 ⟨rfl, hb⟩; have n0_ := Aside0.mk (below_step (by repeat (first | (with_reducible first | exact HB.out | apply below_alloc | apply pw_below_drewN | apply below_drew1) | exact HB.out)) hb); clear HB; have HB := n0_; clear n0_; (try clear hb); (try clear hb2); (try clear hk); (try clear hi)) | (go_at_call 18; (with_reducible refine (topic_Less.calls Sji4 Sji10 false _ A22.out).mono ?_); rintro e w33 ⟨rfl, hb⟩; have n0_ := Aside0.mk (below_step (by repeat (first | (with_reducible first | exact HB.out | apply below_alloc | apply pw_below_drewN | apply below_drew1) | exact HB.out)) hb); clear HB; have HB := n0_; clear n0_; (try clear hb); (try clear hb2); (try clear hk); (try clear hi)))
                        go_ret
                        exact ⟨by first | rfl | (simp [errW_none, errW_some] <;> rfl) | (simp only [← hji4, ← hji7, ← hji10]; first | rfl | (simp [errW_none, errW_some] <;> rfl)) | (simp [*, errW_none, errW_some] <;> rfl), by repeat (first | (with_reducible first | exact HB.out | apply below_alloc | apply pw_below_drewN | apply below_drew1) | exact HB.out)⟩
                    · replace c21 := Bool.eq_false_iff.mpr c21
                      subst c21
                      have H1 : ((rivuletlaw03_fixed.f).bind fun t277 => (some t277)) = some r := by rw [if_neg (show ¬ (false = true) by decide)] at H; exact H
                      clear H
                      have H := H1
                      clear H1
                      replace H := Option.bind_eq_some_iff.mp H
                      obtain ⟨t277, A340, H⟩ := H
                      replace H : (some t277) = some r := H
                      have A34 := Aside0.mk A340
                      clear A340
                      obtain rfl := Option.some.inj H
                      go_enter Tryd.func8, Tryd.ntmps8
                      go_wp2_with (first | ((with_reducible refine gate_callee (f := 18) rfl ?_); refine goesL_ (some 26) rfl rfl Tryd.func18 (by kernel_rfl) rfl #[.string Sji4, .string Sji7] rfl (by (try simp only [List.map_toArray, List.map_cons, List.map_nil]); first | done | (simp only [hji4, hji7]; rfl) | rfl | (simp only [List.length_drop, List.length_take]; rfl)) ?_; (with_reducible refine (topic_Less.calls Sji4 Sji7 true _ A13.out).mono ?_); rintro e w35 ⟨rfl, hb⟩; refine ⟨_, rfl, ?_⟩; have n0_ := Aside0.mk (below_step (by repeat (first | (with_reducible first | exact HB.out | apply below_alloc | apply pw_below_drewN | apply below_drew1) | exact HB.out)) hb); clear HB; have HB := n0_; clear n0_; (try clear hb); (try clear hb2); (try clear hk); (try clear hi)) | ((with_reducible refine gate_callee (f := 18) rfl ?_); refine goesL_ (some 29) rfl rfl Tryd.func18 (by kernel_rfl) rfl #[.string Sji7, .string Sji4] rfl (by (try simp only [List.map_toArray, List.map_cons, List.map_nil]); first | done | (simp only [hji4, hji7]; rfl) | rfl | (simp only [List.length_drop, List.length_take]; rfl)) ?_; (with_reducible refine (topic_Less.calls Sji7 Sji4 false _ A14.out).mono ?_); rintro e w36 ⟨rfl, hb⟩; refine ⟨_, rfl, ?_⟩; have n0_ := Aside0.mk (below_step (by repeat (first | (with_reducible first | exact HB.out | apply below_alloc | apply pw_below_drewN | apply below_drew1) | exact HB.out)) hb); clear HB; have HB := n0_; clear n0_; (try clear hb); (try clear hb2); (try clear hk); (try clear hi)) | (go_at_call 18; (with_reducible refine (topic_Less.calls Sji7 Sji10 false _ A20.out).mono ?_); rintro e w37 ⟨rfl, hb⟩; have n0_ := Aside0.mk (below_step (by repeat (first | (with_reducible first | exact HB.out | apply below_alloc | apply pw_below_drewN | apply below_drew1) | exact HB.out)) hb); clear HB; have HB := n0_; clear n0_; (try clear hb); (try clear hb2); (try clear hk); (try clear hi)) | (go_at_call 20; (with_reducible refine (rivuletlaw03_fixed.calls  t277 _ A34.out).mono ?_); rintro e w38 ⟨rfl, hb⟩; have n0_ := Aside0.mk (below_step (by repeat (first | (with_reducible first | exact HB.out | apply below_alloc | apply pw_below_drewN | apply below_drew1) | exact HB.out)) hb); clear HB; have HB := n0_; clear n0_; (try clear hb); (try clear hb2); (try clear hk); (try clear hi)))
                      go_ret
                      exact ⟨by first | rfl | (simp [errW_none, errW_some] <;> rfl) | (simp only [← hji4, ← hji7, ← hji10]; first | rfl | (simp [errW_none, errW_some] <;> rfl)) | (simp [*, errW_none, errW_some] <;> rfl), by repeat (first | (with_reducible first | exact HB.out | apply below_alloc | apply pw_below_drewN | apply below_drew1) | exact HB.out)⟩
                  · rw [if_neg c19] at H
                    have c19b0 : (true == (Sji4.toList != Sji7.toList)) = false := by simpa using c19
                    have c19n : (Sji4.toList == Sji7.toList) = true := by have h_ := c19b0; unfold bne at h_; revert h_; cases (Sji4.toList == Sji7.toList) <;> decide
                    (try (have c19b1 : decide (true = (Sji4.toList != Sji7.toList)) = false := by simpa using c19))
                    (try (have c19b2 : (true == (Sji4.toList != Sji7.toList)) = false := by simpa using c19))
                    (try (have c19b3 : ¬ (true = (Sji4.toList != Sji7.toList)) := by simpa using c19))
                    clear c19
                    obtain rfl := Option.some.inj H
                    go_enter Tryd.func8, Tryd.ntmps8
                    go_wp2_with (first | ((with_reducible refine gate_callee (f := 18) rfl ?_); refine goesL_ (some 26) rfl rfl Tryd.func18 (by kernel_rfl) rfl #[.string Sji4, .string Sji7] rfl (by (try simp only [List.map_toArray, List.map_cons, List.map_nil]); first | done | (simp only [hji4, hji7]; rfl) | rfl | (simp only [List.length_drop, List.length_take]; rfl)) ?_; (with_reducible refine (topic_Less.calls Sji4 Sji7 true _ A13.out).mono ?_); rintro e w39 ⟨rfl, hb⟩; refine ⟨_, rfl, ?_⟩; have n0_ := Aside0.mk (below_step (by repeat (first | (with_reducible first | exact HB.out | apply below_alloc | apply pw_below_drewN | apply below_drew1) | exact HB.out)) hb); clear HB; have HB := n0_; clear n0_; (try clear hb); (try clear hb2); (try clear hk); (try clear hi)) | ((with_reducible refine gate_callee (f := 18) rfl ?_); refine goesL_ (some 29) rfl rfl Tryd.func18 (by kernel_rfl) rfl #[.string Sji7, .string Sji4] rfl (by (try simp only [List.map_toArray, List.map_cons, List.map_nil]); first | done | (simp only [hji4, hji7]; rfl) | rfl | (simp only [List.length_drop, List.length_take]; rfl)) ?_; (with_reducible refine (topic_Less.calls Sji7 Sji4 false _ A14.out).mono ?_); rintro e w40 ⟨rfl, hb⟩; refine ⟨_, rfl, ?_⟩; have n0_ := Aside0.mk (below_step (by repeat (first | (with_reducible first | exact HB.out | apply below_alloc | apply pw_below_drewN | apply below_drew1) | exact HB.out)) hb); clear HB; have HB := n0_; clear n0_; (try clear hb); (try clear hb2); (try clear hk); (try clear hi)))
                    go_ret
                    exact ⟨by first | rfl | (simp [errW_none, errW_some] <;> rfl) | (simp only [← hji4, ← hji7, ← hji10]; first | rfl | (simp [errW_none, errW_some] <;> rfl)) | (simp [*, errW_none, errW_some] <;> rfl), by repeat (first | (with_reducible first | exact HB.out | apply below_alloc | apply pw_below_drewN | apply below_drew1) | exact HB.out)⟩
              · replace c15 := Bool.eq_false_iff.mpr c15
                subst c15
                have H1 : (if (t273 == (Sji4.toList != Sji7.toList)) = true then ((rivuletlaw03_fixed.f).bind fun t278 => (some t278)) else (some false)) = some r := by rw [if_neg (show ¬ (false = true) by decide)] at H; exact H
                clear H
                have H := H1
                clear H1
                by_cases c41 : (t273 == (Sji4.toList != Sji7.toList)) = true
                · rw [if_pos c41] at H
                  have c41b0 : (t273 == (Sji4.toList != Sji7.toList)) = true := c41
                  have c41n : (t273 == !(Sji4.toList == Sji7.toList)) = true := c41b0
                  (try (have c41b1 : decide (t273 = (Sji4.toList != Sji7.toList)) = true := by simpa using c41))
                  (try (have c41b2 : (t273 == (Sji4.toList != Sji7.toList)) = true := by simpa using c41))
                  clear c41
                  replace H := Option.bind_eq_some_iff.mp H
                  obtain ⟨t278, A420, H⟩ := H
                  replace H : (some t278) = some r := H
                  have A42 := Aside0.mk A420
                  clear A420
                  obtain rfl := Option.some.inj H
                  go_enter Tryd.func8, Tryd.ntmps8
                  go_wp2_with (first | ((with_reducible refine gate_callee (f := 18) rfl ?_); refine goesL_ (some 26) rfl rfl Tryd.func18 (by kernel_rfl) rfl #[.string Sji4, .string Sji7] rfl (by (try simp only [List.map_toArray, List.map_cons, List.map_nil]); first | done | (simp only [hji4, hji7]; rfl) | rfl | (simp only [List.length_drop, List.length_take]; rfl)) ?_; (with_reducible refine (topic_Less.calls Sji4 Sji7 false _ A13.out).mono ?_); rintro e w43 ⟨rfl, hb⟩; refine ⟨_, rfl, ?_⟩; have n0_ := Aside0.mk (below_step (by repeat (first | (with_reducible first | exact HB.out | apply below_alloc | apply pw_below_drewN | apply below_drew1) | exact HB.out)) hb); clear HB; have HB := n0_; clear n0_; (try clear hb); (try clear hb2); (try clear hk); (try clear hi)) | ((with_reducible refine gate_callee (f := 18) rfl ?_); refine goesL_ (some 29) rfl rfl Tryd.func18 (by kernel_rfl) rfl #[.string Sji7, .string Sji4] rfl (by (try simp only [List.map_toArray, List.map_cons, List.map_nil]); first | done | (simp only [hji4, hji7]; rfl) | rfl | (simp only [List.length_drop, List.length_take]; rfl)) ?_; (with_reducible refine (topic_Less.calls Sji7 Sji4 t273 _ A14.out).mono ?_); rintro e w44 ⟨rfl, hb⟩; refine ⟨_, rfl, ?_⟩; have n0_ := Aside0.mk (below_step (by repeat (first | (with_reducible first | exact HB.out | apply below_alloc | apply pw_below_drewN | apply below_drew1) | exact HB.out)) hb); clear HB; have HB := n0_; clear n0_; (try clear hb); (try clear hb2); (try clear hk); (try clear hi)) | (go_at_call 20; (with_reducible refine (rivuletlaw03_fixed.calls  t278 _ A42.out).mono ?_); rintro e w45 ⟨rfl, hb⟩; have n0_ := Aside0.mk (below_step (by repeat (first | (with_reducible first | exact HB.out | apply below_alloc | apply pw_below_drewN | apply below_drew1) | exact HB.out)) hb); clear HB; have HB := n0_; clear n0_; (try clear hb); (try clear hb2); (try clear hk); (try clear hi)))
                  go_ret
                  exact ⟨by first | rfl | (simp [errW_none, errW_some] <;> rfl) | (simp only [← hji4, ← hji7, ← hji10]; first | rfl | (simp [errW_none, errW_some] <;> rfl)) | (simp [*, errW_none, errW_some] <;> rfl), by repeat (first | (with_reducible first | exact HB.out | apply below_alloc | apply pw_below_drewN | apply below_drew1) | exact HB.out)⟩
                · rw [if_neg c41] at H
                  have c41b0 : (t273 == (Sji4.toList != Sji7.toList)) = false := by simpa using c41
                  have c41n : (t273 == !(Sji4.toList == Sji7.toList)) = false := c41b0
                  (try (have c41b1 : decide (t273 = (Sji4.toList != Sji7.toList)) = false := by simpa using c41))
                  (try (have c41b2 : (t273 == (Sji4.toList != Sji7.toList)) = false := by simpa using c41))
                  (try (have c41b3 : ¬ (t273 = (Sji4.toList != Sji7.toList)) := by simpa using c41))
                  clear c41
                  obtain rfl := Option.some.inj H
                  go_enter Tryd.func8, Tryd.ntmps8
                  go_wp2_with (first | ((with_reducible refine gate_callee (f := 18) rfl ?_); refine goesL_ (some 26) rfl rfl Tryd.func18 (by kernel_rfl) rfl #[.string Sji4, .string Sji7] rfl (by (try simp only [List.map_toArray, List.map_cons, List.map_nil]); first | done | (simp only [hji4, hji7]; rfl) | rfl | (simp only [List.length_drop, List.length_take]; rfl)) ?_; (with_reducible refine (topic_Less.calls Sji4 Sji7 false _ A13.out).mono ?_); rintro e w46 ⟨rfl, hb⟩; refine ⟨_, rfl, ?_⟩; have n0_ := Aside0.mk (below_step (by repeat (first | (with_reducible first | exact HB.out | apply below_alloc | apply pw_below_drewN | apply below_drew1) | exact HB.out)) hb); clear HB; have HB := n0_; clear n0_; (try clear hb); (try clear hb2); (try clear hk); (try clear hi)) | ((with_reducible refine gate_callee (f := 18) rfl ?_); refine goesL_ (some 29) rfl rfl Tryd.func18 (by kernel_rfl) rfl #[.string Sji7, .string Sji4] rfl (by (try simp only [List.map_toArray, List.map_cons, List.map_nil]); first | done | (simp only [hji4, hji7]; rfl) | rfl | (simp only [List.length_drop, List.length_take]; rfl)) ?_; (with_reducible refine (topic_Less.calls Sji7 Sji4 t273 _ A14.out).mono ?_); rintro e w47 ⟨rfl, hb⟩; refine ⟨_, rfl, ?_⟩; have n0_ := Aside0.mk (below_step (by repeat (first | (with_reducible first | exact HB.out | apply below_alloc | apply pw_below_drewN | apply below_drew1) | exact HB.out)) hb); clear HB; have HB := n0_; clear n0_; (try clear hb); (try clear hb2); (try clear hk); (try clear hi)))
                  go_ret
                  exact ⟨by first | rfl | (simp [errW_none, errW_some] <;> rfl) | (simp only [← hji4, ← hji7, ← hji10]; first | rfl | (simp [errW_none, errW_some] <;> rfl)) | (simp [*, errW_none, errW_some] <;> rfl), by repeat (first | (with_reducible first | exact HB.out | apply below_alloc | apply pw_below_drewN | apply below_drew1) | exact HB.out)⟩
            · rw [if_neg c12] at H
              exact absurd H (by simp)
          · rw [if_neg c11] at H
            exact absurd H (by simp)
        · rw [if_neg c9] at H
          exact absurd H (by simp)
      · rw [if_neg c8] at H
        exact absurd H (by simp)
    · rw [if_neg c6] at H
      exact absurd H (by simp)
  · rw [if_neg c5] at H
    exact absurd H (by simp)

/-- THE ONE PURE STATEMENT of rivuletlaw03_TopicLess: yours. -/
def rivuletlaw03_TopicLess.Pure : Prop := ∀ (a0 : ByteArray) (a1 : ByteArray) (a2 : ByteArray), a0.size ≤ 140737488351232 → a1.size ≤ 140737488351232 → a2.size ≤ 140737488351232 → rivuletlaw03_TopicLess.f a0 a1 a2 = some true
theorem rivuletlaw03_TopicLess.walk (P : rivuletlaw03_TopicLess.Pure) (a0 : ByteArray) (a1 : ByteArray) (a2 : ByteArray) (w : World) (w0 : a0.size ≤ 140737488351232) (w1 : a1.size ≤ 140737488351232) (w2 : a2.size ≤ 140737488351232) :
    Calls Tryd.prog 8 #[.string a0, .string a1, .string a2] w fun e w' => e = .returned (.bool true) ∧ Below w.heap.size w w' := by
  have h := P a0 a1 a2 w0 w1 w2
  refine (rivuletlaw03_TopicLess.calls a0 a1 a2 true w h).mono ?_
  rintro e w' ⟨rfl, hd⟩
  exact ⟨rfl, hd⟩

end Go.Proofs.YtfakimleoihfgaaDoor.Pr
