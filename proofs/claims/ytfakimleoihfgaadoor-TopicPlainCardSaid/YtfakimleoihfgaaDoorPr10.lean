-- Printed by this session's changed copy of the kit's printer (wip/tools/mkprint.py; some functions are given by hand). Lean checks it.
import Derived.Test.YtfakimleoihfgaaDoorPr0
namespace Go.Proofs.YtfakimleoihfgaaDoor.Pr
open Go.RowKit Go.Proofs.YtfakimleoihfgaaDoorW.PrintWords Go.Proofs.YtfakimleoihfgaaDoorW.PrintLast Go.Proofs.YtfakimleoihfgaaDoorW.PrintMore
attribute [local go_sem] max2_int min2_int max_two min_two max_three min_three max_four min_four   -- for this text's walks alone
set_option linter.unusedVariables false
set_option linter.unusedSimpArgs false

/-! ### rivuletlaw03_TopicPlain: function 7 -/
def rivuletlaw03_TopicPlain.f (a0 : ByteArray) (a1 : ByteArray) : Option (Bool) := if 0 ≤ (mn (a0.size : Int) 200) then (if (mn (a0.size : Int) 200) ≤ (a0.size : Int) then (if 0 ≤ (mn (a1.size : Int) 200) then (if (mn (a1.size : Int) 200) ≤ (a1.size : Int) then ((topic_Right.f (a0.extract 0 ((mn (a0.size : Int) 200) : Int).toNat)).bind fun t263 => (if t263 = true then ((topic_Filter.f (a0.extract 0 ((mn (a0.size : Int) 200) : Int).toNat)).bind fun t266 => (if t266 = true then ((topic_Match.f (a0.extract 0 ((mn (a0.size : Int) 200) : Int).toNat) (a1.extract 0 ((mn (a1.size : Int) 200) : Int).toNat)).bind fun t267 => (if (t267 == ((a0.extract 0 ((mn (a0.size : Int) 200) : Int).toNat).toList == (a1.extract 0 ((mn (a1.size : Int) 200) : Int).toNat).toList)) = true then ((topic_Match.f (⟨#[35]⟩ : ByteArray) (a0.extract 0 ((mn (a0.size : Int) 200) : Int).toNat)).bind fun t268 => (if t268 = true then (if (a0.extract 0 ((mn (a0.size : Int) 200) : Int).toNat).size + 2 ≤ 9223372036854775807 then ((topic_Match.f ((a0.extract 0 ((mn (a0.size : Int) 200) : Int).toNat) ++ (⟨#[47, 35]⟩ : ByteArray)) (a0.extract 0 ((mn (a0.size : Int) 200) : Int).toNat)).bind fun t269 => ((topic_Filter.f ((a0.extract 0 ((mn (a0.size : Int) 200) : Int).toNat) ++ (⟨#[47, 35]⟩ : ByteArray))).bind fun t270 => (if (t269 == t270) = true then ((rivuletlaw03_fixed.f).bind fun t271 => (some t271)) else (some false)))) else (none)) else (some false))) else (some false))) else (some false))) else ((topic_Match.f (⟨#[35]⟩ : ByteArray) (a0.extract 0 ((mn (a0.size : Int) 200) : Int).toNat)).bind fun t264 => (if t264 = true then (some false) else ((rivuletlaw03_fixed.f).bind fun t265 => (some t265)))))) else (none)) else (none)) else (none)) else (none)
set_option maxHeartbeats 8000000 in
set_option maxRecDepth 100000 in
theorem rivuletlaw03_TopicPlain.calls (a0 : ByteArray) (a1 : ByteArray) (r : Bool) (w : World) (h : rivuletlaw03_TopicPlain.f a0 a1 = some r) :
    Calls Tryd.prog 7 #[.string a0, .string a1] w fun e w' => e = .returned (.bool r) ∧ Below w.heap.size w w' := by
  have HB := Aside0.mk (Below.refl w.heap.size w)
  have H : (if 0 ≤ (mn (a0.size : Int) 200) then (if (mn (a0.size : Int) 200) ≤ (a0.size : Int) then (if 0 ≤ (mn (a1.size : Int) 200) then (if (mn (a1.size : Int) 200) ≤ (a1.size : Int) then ((topic_Right.f (a0.extract 0 ((mn (a0.size : Int) 200) : Int).toNat)).bind fun t263 => (if t263 = true then ((topic_Filter.f (a0.extract 0 ((mn (a0.size : Int) 200) : Int).toNat)).bind fun t266 => (if t266 = true then ((topic_Match.f (a0.extract 0 ((mn (a0.size : Int) 200) : Int).toNat) (a1.extract 0 ((mn (a1.size : Int) 200) : Int).toNat)).bind fun t267 => (if (t267 == ((a0.extract 0 ((mn (a0.size : Int) 200) : Int).toNat).toList == (a1.extract 0 ((mn (a1.size : Int) 200) : Int).toNat).toList)) = true then ((topic_Match.f (⟨#[35]⟩ : ByteArray) (a0.extract 0 ((mn (a0.size : Int) 200) : Int).toNat)).bind fun t268 => (if t268 = true then (if (a0.extract 0 ((mn (a0.size : Int) 200) : Int).toNat).size + 2 ≤ 9223372036854775807 then ((topic_Match.f ((a0.extract 0 ((mn (a0.size : Int) 200) : Int).toNat) ++ (⟨#[47, 35]⟩ : ByteArray)) (a0.extract 0 ((mn (a0.size : Int) 200) : Int).toNat)).bind fun t269 => ((topic_Filter.f ((a0.extract 0 ((mn (a0.size : Int) 200) : Int).toNat) ++ (⟨#[47, 35]⟩ : ByteArray))).bind fun t270 => (if (t269 == t270) = true then ((rivuletlaw03_fixed.f).bind fun t271 => (some t271)) else (some false)))) else (none)) else (some false))) else (some false))) else (some false))) else ((topic_Match.f (⟨#[35]⟩ : ByteArray) (a0.extract 0 ((mn (a0.size : Int) 200) : Int).toNat)).bind fun t264 => (if t264 = true then (some false) else ((rivuletlaw03_fixed.f).bind fun t265 => (some t265)))))) else (none)) else (none)) else (none)) else (none)) = some r := h
  clear h
  obtain ⟨ji3, hji3⟩ : ∃ j_ : Int, (mn (a0.size : Int) 200) = j_ := ⟨_, rfl⟩
  replace H : (if 0 ≤ (ji3) then (if (ji3) ≤ (a0.size : Int) then (if 0 ≤ (mn (a1.size : Int) 200) then (if (mn (a1.size : Int) 200) ≤ (a1.size : Int) then ((topic_Right.f (a0.extract 0 ((ji3) : Int).toNat)).bind fun t263 => (if t263 = true then ((topic_Filter.f (a0.extract 0 ((ji3) : Int).toNat)).bind fun t266 => (if t266 = true then ((topic_Match.f (a0.extract 0 ((ji3) : Int).toNat) (a1.extract 0 ((mn (a1.size : Int) 200) : Int).toNat)).bind fun t267 => (if (t267 == ((a0.extract 0 ((ji3) : Int).toNat).toList == (a1.extract 0 ((mn (a1.size : Int) 200) : Int).toNat).toList)) = true then ((topic_Match.f (⟨#[35]⟩ : ByteArray) (a0.extract 0 ((ji3) : Int).toNat)).bind fun t268 => (if t268 = true then (if (a0.extract 0 ((ji3) : Int).toNat).size + 2 ≤ 9223372036854775807 then ((topic_Match.f ((a0.extract 0 ((ji3) : Int).toNat) ++ (⟨#[47, 35]⟩ : ByteArray)) (a0.extract 0 ((ji3) : Int).toNat)).bind fun t269 => ((topic_Filter.f ((a0.extract 0 ((ji3) : Int).toNat) ++ (⟨#[47, 35]⟩ : ByteArray))).bind fun t270 => (if (t269 == t270) = true then ((rivuletlaw03_fixed.f).bind fun t271 => (some t271)) else (some false)))) else (none)) else (some false))) else (some false))) else (some false))) else ((topic_Match.f (⟨#[35]⟩ : ByteArray) (a0.extract 0 ((ji3) : Int).toNat)).bind fun t264 => (if t264 = true then (some false) else ((rivuletlaw03_fixed.f).bind fun t265 => (some t265)))))) else (none)) else (none)) else (none)) else (none)) = some r := by first | (rw [hji3] at H; exact H) | (simp only [hji3] at H ⊢; exact H)
  (try (have hji3h : ji3 ≤ 200 := by (rw [← hji3]; unfold mn; (repeat' split) <;> omega)))
  (try (have hji3g : ji3 ≤ 64 := by omega))
  (try (have hji3l : 0 ≤ ji3 := by (rw [← hji3]; unfold mn; (repeat' split) <;> omega)))
  (try (have hji3m : 0 ≤ ji3 := by omega))
  have hji3_ : (if 200 < (a0.size : Int) then 200 else (a0.size : Int)) = ji3 := hji3
  obtain ⟨Sji3, hSji3⟩ : ∃ S_ : ByteArray, a0.extract 0 (ji3 : Int).toNat = S_ := ⟨_, rfl⟩
  simp only [hSji3] at H
  by_cases c4 : 0 ≤ (ji3)
  · rw [if_pos c4] at H
    have c4b0 := eq_true c4
    have c4b1 : decide (0 ≤ (ji3)) = true := decide_eq_true c4
    clear c4
    by_cases c5 : (ji3) ≤ (a0.size : Int)
    · rw [if_pos c5] at H
      have c5b0 := eq_true c5
      have c5b1 : decide ((ji3) ≤ (a0.size : Int)) = true := decide_eq_true c5
      clear c5
      obtain ⟨ji6, hji6⟩ : ∃ j_ : Int, (mn (a1.size : Int) 200) = j_ := ⟨_, rfl⟩
      replace H : (if 0 ≤ (ji6) then (if (ji6) ≤ (a1.size : Int) then ((topic_Right.f Sji3).bind fun t263 => (if t263 = true then ((topic_Filter.f Sji3).bind fun t266 => (if t266 = true then ((topic_Match.f Sji3 (a1.extract 0 ((ji6) : Int).toNat)).bind fun t267 => (if (t267 == (Sji3.toList == (a1.extract 0 ((ji6) : Int).toNat).toList)) = true then ((topic_Match.f (⟨#[35]⟩ : ByteArray) Sji3).bind fun t268 => (if t268 = true then (if Sji3.size + 2 ≤ 9223372036854775807 then ((topic_Match.f (Sji3 ++ (⟨#[47, 35]⟩ : ByteArray)) Sji3).bind fun t269 => ((topic_Filter.f (Sji3 ++ (⟨#[47, 35]⟩ : ByteArray))).bind fun t270 => (if (t269 == t270) = true then ((rivuletlaw03_fixed.f).bind fun t271 => (some t271)) else (some false)))) else (none)) else (some false))) else (some false))) else (some false))) else ((topic_Match.f (⟨#[35]⟩ : ByteArray) Sji3).bind fun t264 => (if t264 = true then (some false) else ((rivuletlaw03_fixed.f).bind fun t265 => (some t265)))))) else (none)) else (none)) = some r := by first | (rw [hji6] at H; exact H) | (simp only [hji6] at H ⊢; exact H)
      (try (have hji6h : ji6 ≤ 200 := by (rw [← hji6]; unfold mn; (repeat' split) <;> omega)))
      (try (have hji6g : ji6 ≤ 64 := by omega))
      (try (have hji6l : 0 ≤ ji6 := by (rw [← hji6]; unfold mn; (repeat' split) <;> omega)))
      (try (have hji6m : 0 ≤ ji6 := by omega))
      have hji6_ : (if 200 < (a1.size : Int) then 200 else (a1.size : Int)) = ji6 := hji6
      obtain ⟨Sji6, hSji6⟩ : ∃ S_ : ByteArray, a1.extract 0 (ji6 : Int).toNat = S_ := ⟨_, rfl⟩
      simp only [hSji6] at H
      by_cases c7 : 0 ≤ (ji6)
      · rw [if_pos c7] at H
        have c7b0 := eq_true c7
        have c7b1 : decide (0 ≤ (ji6)) = true := decide_eq_true c7
        clear c7
        by_cases c8 : (ji6) ≤ (a1.size : Int)
        · rw [if_pos c8] at H
          have c8b0 := eq_true c8
          have c8b1 : decide ((ji6) ≤ (a1.size : Int)) = true := decide_eq_true c8
          clear c8
          replace H := Option.bind_eq_some_iff.mp H
          obtain ⟨t263, A90, H⟩ := H
          replace H : (if t263 = true then ((topic_Filter.f Sji3).bind fun t266 => (if t266 = true then ((topic_Match.f Sji3 Sji6).bind fun t267 => (if (t267 == (Sji3.toList == Sji6.toList)) = true then ((topic_Match.f (⟨#[35]⟩ : ByteArray) Sji3).bind fun t268 => (if t268 = true then (if Sji3.size + 2 ≤ 9223372036854775807 then ((topic_Match.f (Sji3 ++ (⟨#[47, 35]⟩ : ByteArray)) Sji3).bind fun t269 => ((topic_Filter.f (Sji3 ++ (⟨#[47, 35]⟩ : ByteArray))).bind fun t270 => (if (t269 == t270) = true then ((rivuletlaw03_fixed.f).bind fun t271 => (some t271)) else (some false)))) else (none)) else (some false))) else (some false))) else (some false))) else ((topic_Match.f (⟨#[35]⟩ : ByteArray) Sji3).bind fun t264 => (if t264 = true then (some false) else ((rivuletlaw03_fixed.f).bind fun t265 => (some t265))))) = some r := H
          have A9 := Aside0.mk A90
          clear A90
          by_cases c10 : t263 = true
          · subst c10
            have H1 : ((topic_Filter.f Sji3).bind fun t266 => (if t266 = true then ((topic_Match.f Sji3 Sji6).bind fun t267 => (if (t267 == (Sji3.toList == Sji6.toList)) = true then ((topic_Match.f (⟨#[35]⟩ : ByteArray) Sji3).bind fun t268 => (if t268 = true then (if Sji3.size + 2 ≤ 9223372036854775807 then ((topic_Match.f (Sji3 ++ (⟨#[47, 35]⟩ : ByteArray)) Sji3).bind fun t269 => ((topic_Filter.f (Sji3 ++ (⟨#[47, 35]⟩ : ByteArray))).bind fun t270 => (if (t269 == t270) = true then ((rivuletlaw03_fixed.f).bind fun t271 => (some t271)) else (some false)))) else (none)) else (some false))) else (some false))) else (some false))) = some r := by rw [if_pos rfl] at H; exact H
            clear H
            have H := H1
            clear H1
            replace H := Option.bind_eq_some_iff.mp H
            obtain ⟨t266, A110, H⟩ := H
            replace H : (if t266 = true then ((topic_Match.f Sji3 Sji6).bind fun t267 => (if (t267 == (Sji3.toList == Sji6.toList)) = true then ((topic_Match.f (⟨#[35]⟩ : ByteArray) Sji3).bind fun t268 => (if t268 = true then (if Sji3.size + 2 ≤ 9223372036854775807 then ((topic_Match.f (Sji3 ++ (⟨#[47, 35]⟩ : ByteArray)) Sji3).bind fun t269 => ((topic_Filter.f (Sji3 ++ (⟨#[47, 35]⟩ : ByteArray))).bind fun t270 => (if (t269 == t270) = true then ((rivuletlaw03_fixed.f).bind fun t271 => (some t271)) else (some false)))) else (none)) else (some false))) else (some false))) else (some false)) = some r := H
            have A11 := Aside0.mk A110
            clear A110
            by_cases c12 : t266 = true
            · subst c12
              have H1 : ((topic_Match.f Sji3 Sji6).bind fun t267 => (if (t267 == (Sji3.toList == Sji6.toList)) = true then ((topic_Match.f (⟨#[35]⟩ : ByteArray) Sji3).bind fun t268 => (if t268 = true then (if Sji3.size + 2 ≤ 9223372036854775807 then ((topic_Match.f (Sji3 ++ (⟨#[47, 35]⟩ : ByteArray)) Sji3).bind fun t269 => ((topic_Filter.f (Sji3 ++ (⟨#[47, 35]⟩ : ByteArray))).bind fun t270 => (if (t269 == t270) = true then ((rivuletlaw03_fixed.f).bind fun t271 => (some t271)) else (some false)))) else (none)) else (some false))) else (some false))) = some r := by rw [if_pos rfl] at H; exact H
              clear H
              have H := H1
              clear H1
              replace H := Option.bind_eq_some_iff.mp H
              obtain ⟨t267, A130, H⟩ := H
              replace H : (if (t267 == (Sji3.toList == Sji6.toList)) = true then ((topic_Match.f (⟨#[35]⟩ : ByteArray) Sji3).bind fun t268 => (if t268 = true then (if Sji3.size + 2 ≤ 9223372036854775807 then ((topic_Match.f (Sji3 ++ (⟨#[47, 35]⟩ : ByteArray)) Sji3).bind fun t269 => ((topic_Filter.f (Sji3 ++ (⟨#[47, 35]⟩ : ByteArray))).bind fun t270 => (if (t269 == t270) = true then ((rivuletlaw03_fixed.f).bind fun t271 => (some t271)) else (some false)))) else (none)) else (some false))) else (some false)) = some r := H
              have A13 := Aside0.mk A130
              clear A130
              by_cases c14 : (t267 == (Sji3.toList == Sji6.toList)) = true
              · rw [if_pos c14] at H
                have c14b0 : (t267 == (Sji3.toList == Sji6.toList)) = true := c14
                (try (have c14b1 : decide (t267 = (Sji3.toList == Sji6.toList)) = true := by simpa using c14))
                (try (have c14b2 : (t267 == (Sji3.toList == Sji6.toList)) = true := by simpa using c14))
                clear c14
                replace H := Option.bind_eq_some_iff.mp H
                obtain ⟨t268, A150, H⟩ := H
                replace H : (if t268 = true then (if Sji3.size + 2 ≤ 9223372036854775807 then ((topic_Match.f (Sji3 ++ (⟨#[47, 35]⟩ : ByteArray)) Sji3).bind fun t269 => ((topic_Filter.f (Sji3 ++ (⟨#[47, 35]⟩ : ByteArray))).bind fun t270 => (if (t269 == t270) = true then ((rivuletlaw03_fixed.f).bind fun t271 => (some t271)) else (some false)))) else (none)) else (some false)) = some r := H
                have A15 := Aside0.mk A150
                clear A150
                by_cases c16 : t268 = true
                · subst c16
                  have H1 : (if Sji3.size + 2 ≤ 9223372036854775807 then ((topic_Match.f (Sji3 ++ (⟨#[47, 35]⟩ : ByteArray)) Sji3).bind fun t269 => ((topic_Filter.f (Sji3 ++ (⟨#[47, 35]⟩ : ByteArray))).bind fun t270 => (if (t269 == t270) = true then ((rivuletlaw03_fixed.f).bind fun t271 => (some t271)) else (some false)))) else (none)) = some r := by rw [if_pos rfl] at H; exact H
                  clear H
                  have H := H1
                  clear H1
                  by_cases c17 : Sji3.size + 2 ≤ 9223372036854775807
                  · rw [if_pos c17] at H
                    have c17b0 := eq_true c17
                    have c17b1 : decide (Sji3.size + 2 ≤ 9223372036854775807) = true := decide_eq_true c17
                    try have c17b2 : (9223372036854775807 < Sji3.size + 2) = False := eq_false (Nat.not_lt.2 c17)
                    replace H := Option.bind_eq_some_iff.mp H
                    obtain ⟨t269, A180, H⟩ := H
                    replace H : ((topic_Filter.f (Sji3 ++ (⟨#[47, 35]⟩ : ByteArray))).bind fun t270 => (if (t269 == t270) = true then ((rivuletlaw03_fixed.f).bind fun t271 => (some t271)) else (some false))) = some r := H
                    have A18 := Aside0.mk A180
                    clear A180
                    replace H := Option.bind_eq_some_iff.mp H
                    obtain ⟨t270, A190, H⟩ := H
                    replace H : (if (t269 == t270) = true then ((rivuletlaw03_fixed.f).bind fun t271 => (some t271)) else (some false)) = some r := H
                    have A19 := Aside0.mk A190
                    clear A190
                    by_cases c20 : (t269 == t270) = true
                    · rw [if_pos c20] at H
                      have c20b0 : (t269 == t270) = true := c20
                      (try (have c20b1 : decide (t269 = t270) = true := by simpa using c20))
                      (try (have c20b2 : (t269 == t270) = true := by simpa using c20))
                      clear c20
                      replace H := Option.bind_eq_some_iff.mp H
                      obtain ⟨t271, A210, H⟩ := H
                      replace H : (some t271) = some r := H
                      have A21 := Aside0.mk A210
                      clear A210
                      obtain rfl := Option.some.inj H
                      go_enter Tryd.func7, Tryd.ntmps7
                      go_wp2_with (first | ((with_reducible refine gate_callee (f := 11) rfl ?_); refine goesL_ (some 16) rfl rfl Tryd.func11 (by kernel_rfl) rfl #[.string Sji3] rfl (by (try simp only [List.map_toArray, List.map_cons, List.map_nil]); first | done | (simp only [hji3]; rfl) | rfl | (simp only [List.length_drop, List.length_take]; rfl)) ?_; (with_reducible refine (topic_Right.calls Sji3 true _ A9.out).mono ?_); rintro e w22 ⟨rfl, hb⟩; refine ⟨_, rfl, ?_⟩; have n0_ := Aside0.mk (below_step (by repeat (first | (with_reducible first | exact HB.out | apply below_alloc | apply pw_below_drewN | apply below_drew1) | exact HB.out)) hb); clear HB; have HB := n0_; clear n0_; (try clear hb); (try clear hb2); (try clear hk); (try clear hi)) | ((with_reducible refine gate_callee (f := 13) rfl ?_); refine goesL_ (some 25) rfl rfl Tryd.func13 (by kernel_rfl) rfl #[.string Sji3] rfl (by (try simp only [List.map_toArray, List.map_cons, List.map_nil]); first | done | (simp only [hji3]; rfl) | rfl | (simp only [List.length_drop, List.length_take]; rfl)) ?_; (with_reducible refine (topic_Filter.calls Sji3 true _ A11.out).mono ?_); rintro e w23 ⟨rfl, hb⟩; refine ⟨_, rfl, ?_⟩; have n0_ := Aside0.mk (below_step (by repeat (first | (with_reducible first | exact HB.out | apply below_alloc | apply pw_below_drewN | apply below_drew1) | exact HB.out)) hb); clear HB; have HB := n0_; clear n0_; (try clear hb); (try clear hb2); (try clear hk); (try clear hi)) | (go_at_call 21; (with_reducible refine (topic_Match.calls Sji3 Sji6 t267 _ A13.out).mono ?_); rintro e w24 ⟨rfl, hb⟩; have n0_ := Aside0.mk (below_step (by repeat (first | (with_reducible first | exact HB.out | apply below_alloc | apply pw_below_drewN | apply below_drew1) | exact HB.out)) hb); clear HB; have HB := n0_; clear n0_; (try clear hb); (try clear hb2); (try clear hk); (try clear hi)) | (go_at_call 21; (with_reducible refine (topic_Match.calls (⟨#[35]⟩ : ByteArray) Sji3 true _ A15.out).mono ?_); rintro e w25 ⟨rfl, hb⟩; have n0_ := Aside0.mk (below_step (by repeat (first | (with_reducible first | exact HB.out | apply below_alloc | apply pw_below_drewN | apply below_drew1) | exact HB.out)) hb); clear HB; have HB := n0_; clear n0_; (try clear hb); (try clear hb2); (try clear hk); (try clear hi)) | (go_at_call 21; (with_reducible refine (topic_Match.calls (Sji3 ++ (⟨#[47, 35]⟩ : ByteArray)) Sji3 t269 _ A18.out).mono ?_); rintro e w26 ⟨rfl, hb⟩; have n0_ := Aside0.mk (below_step (by repeat (first | (with_reducible first | exact HB.out | apply below_alloc | apply pw_below_drewN | apply below_drew1) | exact HB.out)) hb); clear HB; have HB := n0_; clear n0_; (try clear hb); (try clear hb2); (try clear hk); (try clear hi)) | (go_at_call 13; (with_reducible refine (topic_Filter.calls (Sji3 ++ (⟨#[47, 35]⟩ : ByteArray)) t270 _ A19.out).mono ?_); rintro e w27 ⟨rfl, hb⟩; have n0_ := Aside0.mk (below_step (by repeat (first | (with_reducible first | exact HB.out | apply below_alloc | apply pw_below_drewN | apply below_drew1) | exact HB.out)) hb); clear HB; have HB := n0_; clear n0_; (try clear hb); (try clear hb2); (try clear hk); (try clear hi)) | (go_at_call 20; (with_reducible refine (rivuletlaw03_fixed.calls  t271 _ A21.out).mono ?_); rintro e w28 ⟨rfl, hb⟩; have n0_ := Aside0.mk (below_step (by repeat (first | (with_reducible first | exact HB.out | apply below_alloc | apply pw_below_drewN | apply below_drew1) | exact HB.out)) hb); clear HB; have HB := n0_; clear n0_; (try clear hb); (try clear hb2); (try clear hk); (try clear hi)))
                      go_ret
                      exact ⟨by first | rfl | (simp [errW_none, errW_some] <;> rfl) | (simp only [← hji3, ← hji6]; first | rfl | (simp [errW_none, errW_some] <;> rfl)) | (simp [*, errW_none, errW_some] <;> rfl), by repeat (first | (with_reducible first | exact HB.out | apply below_alloc | apply pw_below_drewN | apply below_drew1) | exact HB.out)⟩
                    · rw [if_neg c20] at H
                      have c20b0 : (t269 == t270) = false := by simpa using c20
                      (try (have c20b1 : decide (t269 = t270) = false := by simpa using c20))
                      (try (have c20b2 : (t269 == t270) = false := by simpa using c20))
                      (try (have c20b3 : ¬ (t269 = t270) := by simpa using c20))
                      clear c20
                      obtain rfl := Option.some.inj H
                      go_enter Tryd.func7, Tryd.ntmps7
                      go_wp2_with (first | ((with_reducible refine gate_callee (f := 11) rfl ?_); refine goesL_ (some 16) rfl rfl Tryd.func11 (by kernel_rfl) rfl #[.string Sji3] rfl (by (try simp only [List.map_toArray, List.map_cons, List.map_nil]); first | done | (simp only [hji3]; rfl) | rfl | (simp only [List.length_drop, List.length_take]; rfl)) ?_; (with_reducible refine (topic_Right.calls Sji3 true _ A9.out).mono ?_); rintro e w29 ⟨rfl, hb⟩; refine ⟨_, rfl, ?_⟩; have n0_ := Aside0.mk (below_step (by repeat (first | (with_reducible first | exact HB.out | apply below_alloc | apply pw_below_drewN | apply below_drew1) | exact HB.out)) hb); clear HB; have HB := n0_; clear n0_; (try clear hb); (try clear hb2); (try clear hk); (try clear hi)) | ((with_reducible refine gate_callee (f := 13) rfl ?_); refine goesL_ (some 25) rfl rfl Tryd.func13 (by kernel_rfl) rfl #[.string Sji3] rfl (by (try simp only [List.map_toArray, List.map_cons, List.map_nil]); first | done | (simp only [hji3]; rfl) | rfl | (simp only [List.length_drop, List.length_take]; rfl)) ?_; (with_reducible refine (topic_Filter.calls Sji3 true _ A11.out).mono ?_); rintro e w30 ⟨rfl, hb⟩; refine ⟨_, rfl, ?_⟩; have n0_ := Aside0.mk (below_step (by repeat (first | (with_reducible first | exact HB.out | apply below_alloc | apply pw_below_drewN | apply below_drew1) | exact HB.out)) hb); clear HB; have HB := n0_; clear n0_; (try clear hb); (try clear hb2); (try clear hk); (try clear hi)) | (go_at_call 21; (with_reducible refine (topic_Match.calls Sji3 Sji6 t267 _ A13.out).mono ?_); rintro e w31 ⟨rfl, hb⟩; have n0_ := Aside0.mk (below_step (by repeat (first | (with_reducible first | exact HB.out | apply below_alloc | apply pw_below_drewN | apply below_drew1) | exact HB.out)) hb); clear HB; have HB := n0_; clear n0_; (try clear hb); (try clear hb2); (try clear hk); (try clear hi)) | (go_at_call 21; (with_reducible refine (topic_Match.calls (⟨#[35]⟩ : ByteArray) Sji3 true _ A15.out).mono ?_); rintro e w32 ⟨rfl, hb⟩; have n0_ := Aside0.mk (below_step (by repeat (first | (with_reducible first | exact HB.out | apply below_alloc | apply pw_below_drewN | apply below_drew1) | exact HB.out)) hb); clear HB; have HB := n0_; clear n0_; (try clear hb); (try clear hb2); (try clear hk); (try clear hi)) | (go_at_call 21; (with_reducible refine (topic_Match.calls (Sji3 ++ (⟨#[47, 35]⟩ : ByteArray)) Sji3 t269 _ A18.out).mono ?_); rintro e w33 ⟨rfl, hb⟩; have n0_ := Aside0.mk (below_step (by repeat (first | (with_reducible first | exact HB.out | apply below_alloc | apply pw_below_drewN | apply below_drew1) | exact HB.out)) hb); clear HB; have HB := n0_; clear n0_; (try clear hb); (try clear hb2); (try clear hk); (try clear hi)) | (go_at_call 13; (with_reducible refine (topic_Filter.calls (Sji3 ++ (⟨#[47, 35]⟩ : ByteArray)) t270 _ A19.out).mono ?_); rintro e w34 ⟨rfl, hb⟩; have n0_ := Aside0.mk (below_step (by repeat (first | (with_reducible first | exact HB.out | apply below_alloc | apply pw_below_drewN | apply below_drew1) | exact HB.out)) hb); clear HB; have HB := n0_; clear n0_; (try clear hb); (try clear hb2); (try clear hk); (try clear hi)))
                      go_ret
                      exact ⟨by first | rfl | (simp [errW_none, errW_some] <;> rfl) | (simp only [← hji3, ← hji6]; first | rfl | (simp [errW_none, errW_some] <;> rfl)) | (simp [*, errW_none, errW_some] <;> rfl), by repeat (first | (with_reducible first | exact HB.out | apply below_alloc | apply pw_below_drewN | apply below_drew1) | exact HB.out)⟩
                  · rw [if_neg c17] at H
                    exact absurd H (by simp)
                · replace c16 := Bool.eq_false_iff.mpr c16
                  subst c16
                  have H1 : (some false) = some r := by rw [if_neg (show ¬ (false = true) by decide)] at H; exact H
                  clear H
                  have H := H1
                  clear H1
                  obtain rfl := Option.some.inj H
                  go_enter Tryd.func7, Tryd.ntmps7
                  go_wp2_with (first | ((with_reducible refine gate_callee (f := 11) rfl ?_); refine goesL_ (some 16) rfl rfl Tryd.func11 (by kernel_rfl) rfl #[.string Sji3] rfl (by (try simp only [List.map_toArray, List.map_cons, List.map_nil]); first | done | (simp only [hji3]; rfl) | rfl | (simp only [List.length_drop, List.length_take]; rfl)) ?_; (with_reducible refine (topic_Right.calls Sji3 true _ A9.out).mono ?_); rintro e w35 ⟨rfl, hb⟩; refine ⟨_, rfl, ?_⟩; have n0_ := Aside0.mk (below_step (by repeat (first | (with_reducible first | exact HB.out | apply below_alloc | apply pw_below_drewN | apply below_drew1) | exact HB.out)) hb); clear HB; have HB := n0_; clear n0_; (try clear hb); (try clear hb2); (try clear hk); (try clear hi)) | ((with_reducible refine gate_callee (f := 13) rfl ?_); refine goesL_ (some 25) rfl rfl Tryd.func13 (by kernel_rfl) rfl #[.string Sji3] rfl (by (try simp only [List.map_toArray, List.map_cons, List.map_nil]); first | done | (simp only [hji3]; rfl) | rfl | (simp only [List.length_drop, List.length_take]; rfl)) ?_; (with_reducible refine (topic_Filter.calls Sji3 true _ A11.out).mono ?_); rintro e w36 ⟨rfl, hb⟩; refine ⟨_, rfl, ?_⟩; have n0_ := Aside0.mk (below_step (by repeat (first | (with_reducible first | exact HB.out | apply below_alloc | apply pw_below_drewN | apply below_drew1) | exact HB.out)) hb); clear HB; have HB := n0_; clear n0_; (try clear hb); (try clear hb2); (try clear hk); (try clear hi)) | (go_at_call 21; (with_reducible refine (topic_Match.calls Sji3 Sji6 t267 _ A13.out).mono ?_); rintro e w37 ⟨rfl, hb⟩; have n0_ := Aside0.mk (below_step (by repeat (first | (with_reducible first | exact HB.out | apply below_alloc | apply pw_below_drewN | apply below_drew1) | exact HB.out)) hb); clear HB; have HB := n0_; clear n0_; (try clear hb); (try clear hb2); (try clear hk); (try clear hi)) | (go_at_call 21; (with_reducible refine (topic_Match.calls (⟨#[35]⟩ : ByteArray) Sji3 false _ A15.out).mono ?_); rintro e w38 ⟨rfl, hb⟩; have n0_ := Aside0.mk (below_step (by repeat (first | (with_reducible first | exact HB.out | apply below_alloc | apply pw_below_drewN | apply below_drew1) | exact HB.out)) hb); clear HB; have HB := n0_; clear n0_; (try clear hb); (try clear hb2); (try clear hk); (try clear hi)))
                  go_ret
                  exact ⟨by first | rfl | (simp [errW_none, errW_some] <;> rfl) | (simp only [← hji3, ← hji6]; first | rfl | (simp [errW_none, errW_some] <;> rfl)) | (simp [*, errW_none, errW_some] <;> rfl), by repeat (first | (with_reducible first | exact HB.out | apply below_alloc | apply pw_below_drewN | apply below_drew1) | exact HB.out)⟩
              · rw [if_neg c14] at H
                have c14b0 : (t267 == (Sji3.toList == Sji6.toList)) = false := by simpa using c14
                (try (have c14b1 : decide (t267 = (Sji3.toList == Sji6.toList)) = false := by simpa using c14))
                (try (have c14b2 : (t267 == (Sji3.toList == Sji6.toList)) = false := by simpa using c14))
                (try (have c14b3 : ¬ (t267 = (Sji3.toList == Sji6.toList)) := by simpa using c14))
                clear c14
                obtain rfl := Option.some.inj H
                go_enter Tryd.func7, Tryd.ntmps7
                go_wp2_with (first | ((with_reducible refine gate_callee (f := 11) rfl ?_); refine goesL_ (some 16) rfl rfl Tryd.func11 (by kernel_rfl) rfl #[.string Sji3] rfl (by (try simp only [List.map_toArray, List.map_cons, List.map_nil]); first | done | (simp only [hji3]; rfl) | rfl | (simp only [List.length_drop, List.length_take]; rfl)) ?_; (with_reducible refine (topic_Right.calls Sji3 true _ A9.out).mono ?_); rintro e w39 ⟨rfl, hb⟩; refine ⟨_, rfl, ?_⟩; have n0_ := Aside0.mk (below_step (by repeat (first | (with_reducible first | exact HB.out | apply below_alloc | apply pw_below_drewN | apply below_drew1) | exact HB.out)) hb); clear HB; have HB := n0_; clear n0_; (try clear hb); (try clear hb2); (try clear hk); (try clear hi)) | ((with_reducible refine gate_callee (f := 13) rfl ?_); refine goesL_ (some 25) rfl rfl Tryd.func13 (by kernel_rfl) rfl #[.string Sji3] rfl (by (try simp only [List.map_toArray, List.map_cons, List.map_nil]); first | done | (simp only [hji3]; rfl) | rfl | (simp only [List.length_drop, List.length_take]; rfl)) ?_; (with_reducible refine (topic_Filter.calls Sji3 true _ A11.out).mono ?_); rintro e w40 ⟨rfl, hb⟩; refine ⟨_, rfl, ?_⟩; have n0_ := Aside0.mk (below_step (by repeat (first | (with_reducible first | exact HB.out | apply below_alloc | apply pw_below_drewN | apply below_drew1) | exact HB.out)) hb); clear HB; have HB := n0_; clear n0_; (try clear hb); (try clear hb2); (try clear hk); (try clear hi)) | (go_at_call 21; (with_reducible refine (topic_Match.calls Sji3 Sji6 t267 _ A13.out).mono ?_); rintro e w41 ⟨rfl, hb⟩; have n0_ := Aside0.mk (below_step (by repeat (first | (with_reducible first | exact HB.out | apply below_alloc | apply pw_below_drewN | apply below_drew1) | exact HB.out)) hb); clear HB; have HB := n0_; clear n0_; (try clear hb); (try clear hb2); (try clear hk); (try clear hi)))
                go_ret
                exact ⟨by first | rfl | (simp [errW_none, errW_some] <;> rfl) | (simp only [← hji3, ← hji6]; first | rfl | (simp [errW_none, errW_some] <;> rfl)) | (simp [*, errW_none, errW_some] <;> rfl), by repeat (first | (with_reducible first | exact HB.out | apply below_alloc | apply pw_below_drewN | apply below_drew1) | exact HB.out)⟩
            · replace c12 := Bool.eq_false_iff.mpr c12
              subst c12
              have H1 : (some false) = some r := by rw [if_neg (show ¬ (false = true) by decide)] at H; exact H
              clear H
              have H := H1
              clear H1
              obtain rfl := Option.some.inj H
              go_enter Tryd.func7, Tryd.ntmps7
              go_wp2_with (first | ((with_reducible refine gate_callee (f := 11) rfl ?_); refine goesL_ (some 16) rfl rfl Tryd.func11 (by kernel_rfl) rfl #[.string Sji3] rfl (by (try simp only [List.map_toArray, List.map_cons, List.map_nil]); first | done | (simp only [hji3]; rfl) | rfl | (simp only [List.length_drop, List.length_take]; rfl)) ?_; (with_reducible refine (topic_Right.calls Sji3 true _ A9.out).mono ?_); rintro e w42 ⟨rfl, hb⟩; refine ⟨_, rfl, ?_⟩; have n0_ := Aside0.mk (below_step (by repeat (first | (with_reducible first | exact HB.out | apply below_alloc | apply pw_below_drewN | apply below_drew1) | exact HB.out)) hb); clear HB; have HB := n0_; clear n0_; (try clear hb); (try clear hb2); (try clear hk); (try clear hi)) | ((with_reducible refine gate_callee (f := 13) rfl ?_); refine goesL_ (some 25) rfl rfl Tryd.func13 (by kernel_rfl) rfl #[.string Sji3] rfl (by (try simp only [List.map_toArray, List.map_cons, List.map_nil]); first | done | (simp only [hji3]; rfl) | rfl | (simp only [List.length_drop, List.length_take]; rfl)) ?_; (with_reducible refine (topic_Filter.calls Sji3 false _ A11.out).mono ?_); rintro e w43 ⟨rfl, hb⟩; refine ⟨_, rfl, ?_⟩; have n0_ := Aside0.mk (below_step (by repeat (first | (with_reducible first | exact HB.out | apply below_alloc | apply pw_below_drewN | apply below_drew1) | exact HB.out)) hb); clear HB; have HB := n0_; clear n0_; (try clear hb); (try clear hb2); (try clear hk); (try clear hi)))
              go_ret
              exact ⟨by first | rfl | (simp [errW_none, errW_some] <;> rfl) | (simp only [← hji3, ← hji6]; first | rfl | (simp [errW_none, errW_some] <;> rfl)) | (simp [*, errW_none, errW_some] <;> rfl), by repeat (first | (with_reducible first | exact HB.out | apply below_alloc | apply pw_below_drewN | apply below_drew1) | exact HB.out)⟩
          · replace c10 := Bool.eq_false_iff.mpr c10
            subst c10
            have H1 : ((topic_Match.f (⟨#[35]⟩ : ByteArray) Sji3).bind fun t264 => (if t264 = true then (some false) else ((rivuletlaw03_fixed.f).bind fun t265 => (some t265)))) = some r := by rw [if_neg (show ¬ (false = true) by decide)] at H; exact H
            clear H
            have H := H1
            clear H1
            replace H := Option.bind_eq_some_iff.mp H
            obtain ⟨t264, A440, H⟩ := H
            replace H : (if t264 = true then (some false) else ((rivuletlaw03_fixed.f).bind fun t265 => (some t265))) = some r := H
            have A44 := Aside0.mk A440
            clear A440
            by_cases c45 : t264 = true
            · subst c45
              have H1 : (some false) = some r := by rw [if_pos rfl] at H; exact H
              clear H
              have H := H1
              clear H1
              obtain rfl := Option.some.inj H
              go_enter Tryd.func7, Tryd.ntmps7
              go_wp2_with (first | ((with_reducible refine gate_callee (f := 11) rfl ?_); refine goesL_ (some 16) rfl rfl Tryd.func11 (by kernel_rfl) rfl #[.string Sji3] rfl (by (try simp only [List.map_toArray, List.map_cons, List.map_nil]); first | done | (simp only [hji3]; rfl) | rfl | (simp only [List.length_drop, List.length_take]; rfl)) ?_; (with_reducible refine (topic_Right.calls Sji3 false _ A9.out).mono ?_); rintro e w46 ⟨rfl, hb⟩; refine ⟨_, rfl, ?_⟩; have n0_ := Aside0.mk (below_step (by repeat (first | (with_reducible first | exact HB.out | apply below_alloc | apply pw_below_drewN | apply below_drew1) | exact HB.out)) hb); clear HB; have HB := n0_; clear n0_; (try clear hb); (try clear hb2); (try clear hk); (try clear hi)) | ((with_reducible refine gate_callee (f := 21) rfl ?_); refine goesL_ (some 19) rfl rfl Tryd.func21 (by kernel_rfl) rfl #[.string (⟨#[35]⟩ : ByteArray), .string Sji3] rfl (by (try simp only [List.map_toArray, List.map_cons, List.map_nil]); first | done | (simp only [hji3]; rfl) | rfl | (simp only [List.length_drop, List.length_take]; rfl)) ?_; (with_reducible refine (topic_Match.calls (⟨#[35]⟩ : ByteArray) Sji3 true _ A44.out).mono ?_); rintro e w47 ⟨rfl, hb⟩; refine ⟨_, rfl, ?_⟩; have n0_ := Aside0.mk (below_step (by repeat (first | (with_reducible first | exact HB.out | apply below_alloc | apply pw_below_drewN | apply below_drew1) | exact HB.out)) hb); clear HB; have HB := n0_; clear n0_; (try clear hb); (try clear hb2); (try clear hk); (try clear hi)))
              go_ret
              exact ⟨by first | rfl | (simp [errW_none, errW_some] <;> rfl) | (simp only [← hji3, ← hji6]; first | rfl | (simp [errW_none, errW_some] <;> rfl)) | (simp [*, errW_none, errW_some] <;> rfl), by repeat (first | (with_reducible first | exact HB.out | apply below_alloc | apply pw_below_drewN | apply below_drew1) | exact HB.out)⟩
            · replace c45 := Bool.eq_false_iff.mpr c45
              subst c45
              have H1 : ((rivuletlaw03_fixed.f).bind fun t265 => (some t265)) = some r := by rw [if_neg (show ¬ (false = true) by decide)] at H; exact H
              clear H
              have H := H1
              clear H1
              replace H := Option.bind_eq_some_iff.mp H
              obtain ⟨t265, A480, H⟩ := H
              replace H : (some t265) = some r := H
              have A48 := Aside0.mk A480
              clear A480
              obtain rfl := Option.some.inj H
              go_enter Tryd.func7, Tryd.ntmps7
              go_wp2_with (first | ((with_reducible refine gate_callee (f := 11) rfl ?_); refine goesL_ (some 16) rfl rfl Tryd.func11 (by kernel_rfl) rfl #[.string Sji3] rfl (by (try simp only [List.map_toArray, List.map_cons, List.map_nil]); first | done | (simp only [hji3]; rfl) | rfl | (simp only [List.length_drop, List.length_take]; rfl)) ?_; (with_reducible refine (topic_Right.calls Sji3 false _ A9.out).mono ?_); rintro e w49 ⟨rfl, hb⟩; refine ⟨_, rfl, ?_⟩; have n0_ := Aside0.mk (below_step (by repeat (first | (with_reducible first | exact HB.out | apply below_alloc | apply pw_below_drewN | apply below_drew1) | exact HB.out)) hb); clear HB; have HB := n0_; clear n0_; (try clear hb); (try clear hb2); (try clear hk); (try clear hi)) | ((with_reducible refine gate_callee (f := 21) rfl ?_); refine goesL_ (some 19) rfl rfl Tryd.func21 (by kernel_rfl) rfl #[.string (⟨#[35]⟩ : ByteArray), .string Sji3] rfl (by (try simp only [List.map_toArray, List.map_cons, List.map_nil]); first | done | (simp only [hji3]; rfl) | rfl | (simp only [List.length_drop, List.length_take]; rfl)) ?_; (with_reducible refine (topic_Match.calls (⟨#[35]⟩ : ByteArray) Sji3 false _ A44.out).mono ?_); rintro e w50 ⟨rfl, hb⟩; refine ⟨_, rfl, ?_⟩; have n0_ := Aside0.mk (below_step (by repeat (first | (with_reducible first | exact HB.out | apply below_alloc | apply pw_below_drewN | apply below_drew1) | exact HB.out)) hb); clear HB; have HB := n0_; clear n0_; (try clear hb); (try clear hb2); (try clear hk); (try clear hi)) | (go_at_call 20; (with_reducible refine (rivuletlaw03_fixed.calls  t265 _ A48.out).mono ?_); rintro e w51 ⟨rfl, hb⟩; have n0_ := Aside0.mk (below_step (by repeat (first | (with_reducible first | exact HB.out | apply below_alloc | apply pw_below_drewN | apply below_drew1) | exact HB.out)) hb); clear HB; have HB := n0_; clear n0_; (try clear hb); (try clear hb2); (try clear hk); (try clear hi)))
              go_ret
              exact ⟨by first | rfl | (simp [errW_none, errW_some] <;> rfl) | (simp only [← hji3, ← hji6]; first | rfl | (simp [errW_none, errW_some] <;> rfl)) | (simp [*, errW_none, errW_some] <;> rfl), by repeat (first | (with_reducible first | exact HB.out | apply below_alloc | apply pw_below_drewN | apply below_drew1) | exact HB.out)⟩
        · rw [if_neg c8] at H
          exact absurd H (by simp)
      · rw [if_neg c7] at H
        exact absurd H (by simp)
    · rw [if_neg c5] at H
      exact absurd H (by simp)
  · rw [if_neg c4] at H
    exact absurd H (by simp)

/-- THE ONE PURE STATEMENT of rivuletlaw03_TopicPlain: yours. -/
def rivuletlaw03_TopicPlain.Pure : Prop := ∀ (a0 : ByteArray) (a1 : ByteArray), a0.size ≤ 140737488351232 → a1.size ≤ 140737488351232 → rivuletlaw03_TopicPlain.f a0 a1 = some true
theorem rivuletlaw03_TopicPlain.walk (P : rivuletlaw03_TopicPlain.Pure) (a0 : ByteArray) (a1 : ByteArray) (w : World) (w0 : a0.size ≤ 140737488351232) (w1 : a1.size ≤ 140737488351232) :
    Calls Tryd.prog 7 #[.string a0, .string a1] w fun e w' => e = .returned (.bool true) ∧ Below w.heap.size w w' := by
  have h := P a0 a1 w0 w1
  refine (rivuletlaw03_TopicPlain.calls a0 a1 true w h).mono ?_
  rintro e w' ⟨rfl, hd⟩
  exact ⟨rfl, hd⟩

end Go.Proofs.YtfakimleoihfgaaDoor.Pr
