-- Printed by this session's changed copy of the kit's printer (wip/tools/mkprint.py; some functions are given by hand). Lean checks it.
import Derived.Test.YtfakimleoihfgaaDoorPr0
import Derived.Test.YtfakimleoihfgaaDoorPr4
import Derived.Test.YtfakimleoihfgaaDoorPr5
namespace Go.Proofs.YtfakimleoihfgaaDoor.Pr
open Go.RowKit Go.Proofs.YtfakimleoihfgaaDoorW.PrintWords Go.Proofs.YtfakimleoihfgaaDoorW.PrintLast Go.Proofs.YtfakimleoihfgaaDoorW.PrintMore
attribute [local go_sem] max2_int min2_int max_two min_two max_three min_three max_four min_four   -- for this text's walks alone
set_option linter.unusedVariables false
set_option linter.unusedSimpArgs false

/-! ### rivuletlaw03_TopicLets: function 4 -/
def rivuletlaw03_TopicLets.f (k : Nat) (a0 : ByteArray) (a1 : ByteArray) (a2 : ByteArray) : Option (Bool) := if 0 ≤ (mn (a0.size : Int) 200) then (if (mn (a0.size : Int) 200) ≤ (a0.size : Int) then (if 0 ≤ (mn (a1.size : Int) 200) then (if (mn (a1.size : Int) 200) ≤ (a1.size : Int) then (if 0 ≤ (mn (a2.size : Int) 200) then (if (mn (a2.size : Int) 200) ≤ (a2.size : Int) then ((topic_Match.f (a0.extract 0 ((mn (a0.size : Int) 200) : Int).toNat) (a2.extract 0 ((mn (a2.size : Int) 200) : Int).toNat)).bind fun t205 => ((rivuletref03_Match.f k (a0.extract 0 ((mn (a0.size : Int) 200) : Int).toNat) (a2.extract 0 ((mn (a2.size : Int) 200) : Int).toNat)).bind fun t206 => (if (t205 == t206) = true then ((topic_Covers.f (a0.extract 0 ((mn (a0.size : Int) 200) : Int).toNat) (a1.extract 0 ((mn (a1.size : Int) 200) : Int).toNat)).bind fun t207 => ((rivuletref03_Covers.f k (a0.extract 0 ((mn (a0.size : Int) 200) : Int).toNat) (a1.extract 0 ((mn (a1.size : Int) 200) : Int).toNat)).bind fun t208 => (if (t207 == t208) = true then ((topic_Meet.f (a0.extract 0 ((mn (a0.size : Int) 200) : Int).toNat) (a1.extract 0 ((mn (a1.size : Int) 200) : Int).toNat)).bind fun t209 => ((rivuletref03_Meet.f k (a0.extract 0 ((mn (a0.size : Int) 200) : Int).toNat) (a1.extract 0 ((mn (a1.size : Int) 200) : Int).toNat)).bind fun t210 => (if (t209 == t210) = true then ((rivuletlaw03_fixed.f).bind fun t211 => (some t211)) else (some false)))) else (some false)))) else (some false)))) else (none)) else (none)) else (none)) else (none)) else (none)) else (none)
theorem rivuletlaw03_TopicLets.mono : ∀ a0 a1 a2 k, LeO (rivuletlaw03_TopicLets.f k a0 a1 a2) (rivuletlaw03_TopicLets.f (k + 1) a0 a1 a2) := by
  intro a0 a1 a2 k
  unfold rivuletlaw03_TopicLets.f
  repeat' first
      | (with_reducible exact rivuletref03_Covers.mono _ _ _)
      | (with_reducible exact rivuletref03_Match.mono _ _ _)
      | (with_reducible exact rivuletref03_Meet.mono _ _ _)
      | (with_reducible exact LeO.refl _)
      | (with_reducible exact LeO.none _)
      | (with_reducible refine LeO.ite ?_ ?_)
      | (with_reducible refine LeO.bind ?_ (fun _ => ?_))
      | exact rivuletref03_Covers.mono _ _ _
      | exact rivuletref03_Match.mono _ _ _
      | exact rivuletref03_Meet.mono _ _ _
      | exact LeO.none _
      | refine LeO.ite ?_ ?_
      | refine LeO.bind ?_ (fun _ => ?_)
set_option maxHeartbeats 8000000 in
set_option maxRecDepth 100000 in
theorem rivuletlaw03_TopicLets.calls (k : Nat) (a0 : ByteArray) (a1 : ByteArray) (a2 : ByteArray) (r : Bool) (w : World) (h : rivuletlaw03_TopicLets.f k a0 a1 a2 = some r) :
    Calls Tryd.prog 4 #[.string a0, .string a1, .string a2] w fun e w' => e = .returned (.bool r) ∧ Below w.heap.size w w' := by
  have HB := Aside0.mk (Below.refl w.heap.size w)
  have H : (if 0 ≤ (mn (a0.size : Int) 200) then (if (mn (a0.size : Int) 200) ≤ (a0.size : Int) then (if 0 ≤ (mn (a1.size : Int) 200) then (if (mn (a1.size : Int) 200) ≤ (a1.size : Int) then (if 0 ≤ (mn (a2.size : Int) 200) then (if (mn (a2.size : Int) 200) ≤ (a2.size : Int) then ((topic_Match.f (a0.extract 0 ((mn (a0.size : Int) 200) : Int).toNat) (a2.extract 0 ((mn (a2.size : Int) 200) : Int).toNat)).bind fun t205 => ((rivuletref03_Match.f k (a0.extract 0 ((mn (a0.size : Int) 200) : Int).toNat) (a2.extract 0 ((mn (a2.size : Int) 200) : Int).toNat)).bind fun t206 => (if (t205 == t206) = true then ((topic_Covers.f (a0.extract 0 ((mn (a0.size : Int) 200) : Int).toNat) (a1.extract 0 ((mn (a1.size : Int) 200) : Int).toNat)).bind fun t207 => ((rivuletref03_Covers.f k (a0.extract 0 ((mn (a0.size : Int) 200) : Int).toNat) (a1.extract 0 ((mn (a1.size : Int) 200) : Int).toNat)).bind fun t208 => (if (t207 == t208) = true then ((topic_Meet.f (a0.extract 0 ((mn (a0.size : Int) 200) : Int).toNat) (a1.extract 0 ((mn (a1.size : Int) 200) : Int).toNat)).bind fun t209 => ((rivuletref03_Meet.f k (a0.extract 0 ((mn (a0.size : Int) 200) : Int).toNat) (a1.extract 0 ((mn (a1.size : Int) 200) : Int).toNat)).bind fun t210 => (if (t209 == t210) = true then ((rivuletlaw03_fixed.f).bind fun t211 => (some t211)) else (some false)))) else (some false)))) else (some false)))) else (none)) else (none)) else (none)) else (none)) else (none)) else (none)) = some r := h
  clear h
  obtain ⟨ji4, hji4⟩ : ∃ j_ : Int, (mn (a0.size : Int) 200) = j_ := ⟨_, rfl⟩
  replace H : (if 0 ≤ (ji4) then (if (ji4) ≤ (a0.size : Int) then (if 0 ≤ (mn (a1.size : Int) 200) then (if (mn (a1.size : Int) 200) ≤ (a1.size : Int) then (if 0 ≤ (mn (a2.size : Int) 200) then (if (mn (a2.size : Int) 200) ≤ (a2.size : Int) then ((topic_Match.f (a0.extract 0 ((ji4) : Int).toNat) (a2.extract 0 ((mn (a2.size : Int) 200) : Int).toNat)).bind fun t205 => ((rivuletref03_Match.f k (a0.extract 0 ((ji4) : Int).toNat) (a2.extract 0 ((mn (a2.size : Int) 200) : Int).toNat)).bind fun t206 => (if (t205 == t206) = true then ((topic_Covers.f (a0.extract 0 ((ji4) : Int).toNat) (a1.extract 0 ((mn (a1.size : Int) 200) : Int).toNat)).bind fun t207 => ((rivuletref03_Covers.f k (a0.extract 0 ((ji4) : Int).toNat) (a1.extract 0 ((mn (a1.size : Int) 200) : Int).toNat)).bind fun t208 => (if (t207 == t208) = true then ((topic_Meet.f (a0.extract 0 ((ji4) : Int).toNat) (a1.extract 0 ((mn (a1.size : Int) 200) : Int).toNat)).bind fun t209 => ((rivuletref03_Meet.f k (a0.extract 0 ((ji4) : Int).toNat) (a1.extract 0 ((mn (a1.size : Int) 200) : Int).toNat)).bind fun t210 => (if (t209 == t210) = true then ((rivuletlaw03_fixed.f).bind fun t211 => (some t211)) else (some false)))) else (some false)))) else (some false)))) else (none)) else (none)) else (none)) else (none)) else (none)) else (none)) = some r := by first | (rw [hji4] at H; exact H) | (simp only [hji4] at H ⊢; exact H)
  (try (have hji4h : ji4 ≤ 200 := by (rw [← hji4]; unfold mn; (repeat' split) <;> omega)))
  (try (have hji4g : ji4 ≤ 64 := by omega))
  (try (have hji4l : 0 ≤ ji4 := by (rw [← hji4]; unfold mn; (repeat' split) <;> omega)))
  (try (have hji4m : 0 ≤ ji4 := by omega))
  have hji4_ : (if 200 < (a0.size : Int) then 200 else (a0.size : Int)) = ji4 := hji4
  obtain ⟨Sji4, hSji4⟩ : ∃ S_ : ByteArray, a0.extract 0 (ji4 : Int).toNat = S_ := ⟨_, rfl⟩
  simp only [hSji4] at H
  by_cases c5 : 0 ≤ (ji4)
  · rw [if_pos c5] at H
    have c5b0 := eq_true c5
    have c5b1 : decide (0 ≤ (ji4)) = true := decide_eq_true c5
    clear c5
    by_cases c6 : (ji4) ≤ (a0.size : Int)
    · rw [if_pos c6] at H
      have c6b0 := eq_true c6
      have c6b1 : decide ((ji4) ≤ (a0.size : Int)) = true := decide_eq_true c6
      clear c6
      obtain ⟨ji7, hji7⟩ : ∃ j_ : Int, (mn (a1.size : Int) 200) = j_ := ⟨_, rfl⟩
      replace H : (if 0 ≤ (ji7) then (if (ji7) ≤ (a1.size : Int) then (if 0 ≤ (mn (a2.size : Int) 200) then (if (mn (a2.size : Int) 200) ≤ (a2.size : Int) then ((topic_Match.f Sji4 (a2.extract 0 ((mn (a2.size : Int) 200) : Int).toNat)).bind fun t205 => ((rivuletref03_Match.f k Sji4 (a2.extract 0 ((mn (a2.size : Int) 200) : Int).toNat)).bind fun t206 => (if (t205 == t206) = true then ((topic_Covers.f Sji4 (a1.extract 0 ((ji7) : Int).toNat)).bind fun t207 => ((rivuletref03_Covers.f k Sji4 (a1.extract 0 ((ji7) : Int).toNat)).bind fun t208 => (if (t207 == t208) = true then ((topic_Meet.f Sji4 (a1.extract 0 ((ji7) : Int).toNat)).bind fun t209 => ((rivuletref03_Meet.f k Sji4 (a1.extract 0 ((ji7) : Int).toNat)).bind fun t210 => (if (t209 == t210) = true then ((rivuletlaw03_fixed.f).bind fun t211 => (some t211)) else (some false)))) else (some false)))) else (some false)))) else (none)) else (none)) else (none)) else (none)) = some r := by first | (rw [hji7] at H; exact H) | (simp only [hji7] at H ⊢; exact H)
      (try (have hji7h : ji7 ≤ 200 := by (rw [← hji7]; unfold mn; (repeat' split) <;> omega)))
      (try (have hji7g : ji7 ≤ 64 := by omega))
      (try (have hji7l : 0 ≤ ji7 := by (rw [← hji7]; unfold mn; (repeat' split) <;> omega)))
      (try (have hji7m : 0 ≤ ji7 := by omega))
      have hji7_ : (if 200 < (a1.size : Int) then 200 else (a1.size : Int)) = ji7 := hji7
      obtain ⟨Sji7, hSji7⟩ : ∃ S_ : ByteArray, a1.extract 0 (ji7 : Int).toNat = S_ := ⟨_, rfl⟩
      simp only [hSji7] at H
      by_cases c8 : 0 ≤ (ji7)
      · rw [if_pos c8] at H
        have c8b0 := eq_true c8
        have c8b1 : decide (0 ≤ (ji7)) = true := decide_eq_true c8
        clear c8
        by_cases c9 : (ji7) ≤ (a1.size : Int)
        · rw [if_pos c9] at H
          have c9b0 := eq_true c9
          have c9b1 : decide ((ji7) ≤ (a1.size : Int)) = true := decide_eq_true c9
          clear c9
          obtain ⟨ji10, hji10⟩ : ∃ j_ : Int, (mn (a2.size : Int) 200) = j_ := ⟨_, rfl⟩
          replace H : (if 0 ≤ (ji10) then (if (ji10) ≤ (a2.size : Int) then ((topic_Match.f Sji4 (a2.extract 0 ((ji10) : Int).toNat)).bind fun t205 => ((rivuletref03_Match.f k Sji4 (a2.extract 0 ((ji10) : Int).toNat)).bind fun t206 => (if (t205 == t206) = true then ((topic_Covers.f Sji4 Sji7).bind fun t207 => ((rivuletref03_Covers.f k Sji4 Sji7).bind fun t208 => (if (t207 == t208) = true then ((topic_Meet.f Sji4 Sji7).bind fun t209 => ((rivuletref03_Meet.f k Sji4 Sji7).bind fun t210 => (if (t209 == t210) = true then ((rivuletlaw03_fixed.f).bind fun t211 => (some t211)) else (some false)))) else (some false)))) else (some false)))) else (none)) else (none)) = some r := by first | (rw [hji10] at H; exact H) | (simp only [hji10] at H ⊢; exact H)
          (try (have hji10h : ji10 ≤ 200 := by (rw [← hji10]; unfold mn; (repeat' split) <;> omega)))
          (try (have hji10g : ji10 ≤ 64 := by omega))
          (try (have hji10l : 0 ≤ ji10 := by (rw [← hji10]; unfold mn; (repeat' split) <;> omega)))
          (try (have hji10m : 0 ≤ ji10 := by omega))
          have hji10_ : (if 200 < (a2.size : Int) then 200 else (a2.size : Int)) = ji10 := hji10
          obtain ⟨Sji10, hSji10⟩ : ∃ S_ : ByteArray, a2.extract 0 (ji10 : Int).toNat = S_ := ⟨_, rfl⟩
          simp only [hSji10] at H
          by_cases c11 : 0 ≤ (ji10)
          · rw [if_pos c11] at H
            have c11b0 := eq_true c11
            have c11b1 : decide (0 ≤ (ji10)) = true := decide_eq_true c11
            clear c11
            by_cases c12 : (ji10) ≤ (a2.size : Int)
            · rw [if_pos c12] at H
              have c12b0 := eq_true c12
              have c12b1 : decide ((ji10) ≤ (a2.size : Int)) = true := decide_eq_true c12
              clear c12
              replace H := Option.bind_eq_some_iff.mp H
              obtain ⟨t205, A130, H⟩ := H
              replace H : ((rivuletref03_Match.f k Sji4 Sji10).bind fun t206 => (if (t205 == t206) = true then ((topic_Covers.f Sji4 Sji7).bind fun t207 => ((rivuletref03_Covers.f k Sji4 Sji7).bind fun t208 => (if (t207 == t208) = true then ((topic_Meet.f Sji4 Sji7).bind fun t209 => ((rivuletref03_Meet.f k Sji4 Sji7).bind fun t210 => (if (t209 == t210) = true then ((rivuletlaw03_fixed.f).bind fun t211 => (some t211)) else (some false)))) else (some false)))) else (some false))) = some r := H
              have A13 := Aside0.mk A130
              clear A130
              replace H := Option.bind_eq_some_iff.mp H
              obtain ⟨t206, A140, H⟩ := H
              replace H : (if (t205 == t206) = true then ((topic_Covers.f Sji4 Sji7).bind fun t207 => ((rivuletref03_Covers.f k Sji4 Sji7).bind fun t208 => (if (t207 == t208) = true then ((topic_Meet.f Sji4 Sji7).bind fun t209 => ((rivuletref03_Meet.f k Sji4 Sji7).bind fun t210 => (if (t209 == t210) = true then ((rivuletlaw03_fixed.f).bind fun t211 => (some t211)) else (some false)))) else (some false)))) else (some false)) = some r := H
              have A14 := Aside0.mk A140
              clear A140
              by_cases c15 : (t205 == t206) = true
              · rw [if_pos c15] at H
                have c15b0 : (t205 == t206) = true := c15
                (try (have c15b1 : decide (t205 = t206) = true := by simpa using c15))
                (try (have c15b2 : (t205 == t206) = true := by simpa using c15))
                clear c15
                replace H := Option.bind_eq_some_iff.mp H
                obtain ⟨t207, A160, H⟩ := H
                replace H : ((rivuletref03_Covers.f k Sji4 Sji7).bind fun t208 => (if (t207 == t208) = true then ((topic_Meet.f Sji4 Sji7).bind fun t209 => ((rivuletref03_Meet.f k Sji4 Sji7).bind fun t210 => (if (t209 == t210) = true then ((rivuletlaw03_fixed.f).bind fun t211 => (some t211)) else (some false)))) else (some false))) = some r := H
                have A16 := Aside0.mk A160
                clear A160
                replace H := Option.bind_eq_some_iff.mp H
                obtain ⟨t208, A170, H⟩ := H
                replace H : (if (t207 == t208) = true then ((topic_Meet.f Sji4 Sji7).bind fun t209 => ((rivuletref03_Meet.f k Sji4 Sji7).bind fun t210 => (if (t209 == t210) = true then ((rivuletlaw03_fixed.f).bind fun t211 => (some t211)) else (some false)))) else (some false)) = some r := H
                have A17 := Aside0.mk A170
                clear A170
                by_cases c18 : (t207 == t208) = true
                · rw [if_pos c18] at H
                  have c18b0 : (t207 == t208) = true := c18
                  (try (have c18b1 : decide (t207 = t208) = true := by simpa using c18))
                  (try (have c18b2 : (t207 == t208) = true := by simpa using c18))
                  clear c18
                  replace H := Option.bind_eq_some_iff.mp H
                  obtain ⟨t209, A190, H⟩ := H
                  replace H : ((rivuletref03_Meet.f k Sji4 Sji7).bind fun t210 => (if (t209 == t210) = true then ((rivuletlaw03_fixed.f).bind fun t211 => (some t211)) else (some false))) = some r := H
                  have A19 := Aside0.mk A190
                  clear A190
                  replace H := Option.bind_eq_some_iff.mp H
                  obtain ⟨t210, A200, H⟩ := H
                  replace H : (if (t209 == t210) = true then ((rivuletlaw03_fixed.f).bind fun t211 => (some t211)) else (some false)) = some r := H
                  have A20 := Aside0.mk A200
                  clear A200
                  by_cases c21 : (t209 == t210) = true
                  · rw [if_pos c21] at H
                    have c21b0 : (t209 == t210) = true := c21
                    (try (have c21b1 : decide (t209 = t210) = true := by simpa using c21))
                    (try (have c21b2 : (t209 == t210) = true := by simpa using c21))
                    clear c21
                    replace H := Option.bind_eq_some_iff.mp H
                    obtain ⟨t211, A220, H⟩ := H
                    replace H : (some t211) = some r := H
                    have A22 := Aside0.mk A220
                    clear A220
                    obtain rfl := Option.some.inj H
                    go_enter Tryd.func4, Tryd.ntmps4
                    go_wp2_with (first | ((with_reducible refine gate_callee (f := 21) rfl ?_); refine goesL_ (some 24) rfl rfl Tryd.func21 (by kernel_rfl) rfl #[.string Sji4, .string Sji10] rfl (by (try simp only [List.map_toArray, List.map_cons, List.map_nil]); first | done | (simp only [hji10, hji4]; rfl) | rfl | (simp only [List.length_drop, List.length_take]; rfl)) ?_; (with_reducible refine (topic_Match.calls Sji4 Sji10 t205 _ A13.out).mono ?_); rintro e w23 ⟨rfl, hb⟩; refine ⟨_, rfl, ?_⟩; have n0_ := Aside0.mk (below_step (by repeat (first | (with_reducible first | exact HB.out | apply below_alloc | apply pw_below_drewN | apply below_drew1) | exact HB.out)) hb); clear HB; have HB := n0_; clear n0_; (try clear hb); (try clear hb2); (try clear hk); (try clear hi)) | ((with_reducible refine gate_callee (f := 22) rfl ?_); refine goesL_ (some 27) rfl rfl Tryd.func22 (by kernel_rfl) rfl #[.string Sji4, .string Sji10] rfl (by (try simp only [List.map_toArray, List.map_cons, List.map_nil]); first | done | (simp only [hji10, hji4]; rfl) | rfl | (simp only [List.length_drop, List.length_take]; rfl)) ?_; (with_reducible refine (rivuletref03_Match.calls k Sji4 Sji10 t206 _ A14.out).mono ?_); rintro e w24 ⟨rfl, hb⟩; refine ⟨_, rfl, ?_⟩; have n0_ := Aside0.mk (below_step (by repeat (first | (with_reducible first | exact HB.out | apply below_alloc | apply pw_below_drewN | apply below_drew1) | exact HB.out)) hb); clear HB; have HB := n0_; clear n0_; (try clear hb); (try clear hb2); (try clear hk); (try clear hi)) | (go_at_call 23; (with_reducible refine (topic_Covers.calls Sji4 Sji7 t207 _ A16.out).mono ?_); rintro e w25 ⟨rfl, hb⟩; have n0_ := Aside0.mk (below_step (by repeat (first | (with_reducible first | exact HB.out | apply below_alloc | apply pw_below_drewN | apply below_drew1) | exact HB.out)) hb); clear HB; have HB := n0_; clear n0_; (try clear hb); (try clear hb2); (try clear hk); (try clear hi)) | (go_at_call 24; (with_reducible refine (rivuletref03_Covers.calls k Sji4 Sji7 t208 _ A17.out).mono ?_); rintro e w26 ⟨rfl, hb⟩; have n0_ := Aside0.mk (below_step (by repeat (first | (with_reducible first | exact HB.out | apply below_alloc | apply pw_below_drewN | apply below_drew1) | exact HB.out)) hb); clear HB; have HB := n0_; clear n0_; (try clear hb); (try clear hb2); (try clear hk); (try clear hi)) | (go_at_call 25; (with_reducible refine (topic_Meet.calls Sji4 Sji7 t209 _ A19.out).mono ?_); rintro e w27 ⟨rfl, hb⟩; have n0_ := Aside0.mk (below_step (by repeat (first | (with_reducible first | exact HB.out | apply below_alloc | apply pw_below_drewN | apply below_drew1) | exact HB.out)) hb); clear HB; have HB := n0_; clear n0_; (try clear hb); (try clear hb2); (try clear hk); (try clear hi)) | (go_at_call 26; (with_reducible refine (rivuletref03_Meet.calls k Sji4 Sji7 t210 _ A20.out).mono ?_); rintro e w28 ⟨rfl, hb⟩; have n0_ := Aside0.mk (below_step (by repeat (first | (with_reducible first | exact HB.out | apply below_alloc | apply pw_below_drewN | apply below_drew1) | exact HB.out)) hb); clear HB; have HB := n0_; clear n0_; (try clear hb); (try clear hb2); (try clear hk); (try clear hi)) | (go_at_call 20; (with_reducible refine (rivuletlaw03_fixed.calls  t211 _ A22.out).mono ?_); rintro e w29 ⟨rfl, hb⟩; have n0_ := Aside0.mk (below_step (by repeat (first | (with_reducible first | exact HB.out | apply below_alloc | apply pw_below_drewN | apply below_drew1) | exact HB.out)) hb); clear HB; have HB := n0_; clear n0_; (try clear hb); (try clear hb2); (try clear hk); (try clear hi)))
                    go_ret
                    exact ⟨by first | rfl | (simp [errW_none, errW_some] <;> rfl) | (simp only [← hji4, ← hji7, ← hji10]; first | rfl | (simp [errW_none, errW_some] <;> rfl)) | (simp [*, errW_none, errW_some] <;> rfl), by repeat (first | (with_reducible first | exact HB.out | apply below_alloc | apply pw_below_drewN | apply below_drew1) | exact HB.out)⟩
                  · rw [if_neg c21] at H
                    have c21b0 : (t209 == t210) = false := by simpa using c21
                    (try (have c21b1 : decide (t209 = t210) = false := by simpa using c21))
                    (try (have c21b2 : (t209 == t210) = false := by simpa using c21))
                    (try (have c21b3 : ¬ (t209 = t210) := by simpa using c21))
                    clear c21
                    obtain rfl := Option.some.inj H
                    go_enter Tryd.func4, Tryd.ntmps4
                    go_wp2_with (first | ((with_reducible refine gate_callee (f := 21) rfl ?_); refine goesL_ (some 24) rfl rfl Tryd.func21 (by kernel_rfl) rfl #[.string Sji4, .string Sji10] rfl (by (try simp only [List.map_toArray, List.map_cons, List.map_nil]); first | done | (simp only [hji10, hji4]; rfl) | rfl | (simp only [List.length_drop, List.length_take]; rfl)) ?_; (with_reducible refine (topic_Match.calls Sji4 Sji10 t205 _ A13.out).mono ?_); rintro e w30 ⟨rfl, hb⟩; refine ⟨_, rfl, ?_⟩; have n0_ := Aside0.mk (below_step (by repeat (first | (with_reducible first | exact HB.out | apply below_alloc | apply pw_below_drewN | apply below_drew1) | exact HB.out)) hb); clear HB; have HB := n0_; clear n0_; (try clear hb); (try clear hb2); (try clear hk); (try clear hi)) | ((with_reducible refine gate_callee (f := 22) rfl ?_); refine goesL_ (some 27) rfl rfl Tryd.func22 (by kernel_rfl) rfl #[.string Sji4, .string Sji10] rfl (by (try simp only [List.map_toArray, List.map_cons, List.map_nil]); first | done | (simp only [hji10, hji4]; rfl) | rfl | (simp only [List.length_drop, List.length_take]; rfl)) ?_; (with_reducible refine (rivuletref03_Match.calls k Sji4 Sji10 t206 _ A14.out).mono ?_); rintro e w31 ⟨rfl, hb⟩; refine ⟨_, rfl, ?_⟩; have n0_ := Aside0.mk (below_step (by repeat (first | (with_reducible first | exact HB.out | apply below_alloc | apply pw_below_drewN | apply below_drew1) | exact HB.out)) hb); clear HB; have HB := n0_; clear n0_; (try clear hb); (try clear hb2); (try clear hk); (try clear hi)) | (go_at_call 23; (with_reducible refine (topic_Covers.calls Sji4 Sji7 t207 _ A16.out).mono ?_); rintro e w32 ⟨rfl, hb⟩; have n0_ := Aside0.mk (below_step (by repeat (first | (with_reducible first | exact HB.out | apply below_alloc | apply pw_below_drewN | apply below_drew1) | exact HB.out)) hb); clear HB; have HB := n0_; clear n0_; (try clear hb); (try clear hb2); (try clear hk); (try clear hi)) | (go_at_call 24; (with_reducible refine (rivuletref03_Covers.calls k Sji4 Sji7 t208 _ A17.out).mono ?_); rintro e w33 ⟨rfl, hb⟩; have n0_ := Aside0.mk (below_step (by repeat (first | (with_reducible first | exact HB.out | apply below_alloc | apply pw_below_drewN | apply below_drew1) | exact HB.out)) hb); clear HB; have HB := n0_; clear n0_; (try clear hb); (try clear hb2); (try clear hk); (try clear hi)) | (go_at_call 25; (with_reducible refine (topic_Meet.calls Sji4 Sji7 t209 _ A19.out).mono ?_); rintro e w34 ⟨rfl, hb⟩; have n0_ := Aside0.mk (below_step (by repeat (first | (with_reducible first | exact HB.out | apply below_alloc | apply pw_below_drewN | apply below_drew1) | exact HB.out)) hb); clear HB; have HB := n0_; clear n0_; (try clear hb); (try clear hb2); (try clear hk); (try clear hi)) | (go_at_call 26; (with_reducible refine (rivuletref03_Meet.calls k Sji4 Sji7 t210 _ A20.out).mono ?_); rintro e w35 ⟨rfl, hb⟩; have n0_ := Aside0.mk (below_step (by repeat (first | (with_reducible first | exact HB.out | apply below_alloc | apply pw_below_drewN | apply below_drew1) | exact HB.out)) hb); clear HB; have HB := n0_; clear n0_; (try clear hb); (try clear hb2); (try clear hk); (try clear hi)))
                    go_ret
                    exact ⟨by first | rfl | (simp [errW_none, errW_some] <;> rfl) | (simp only [← hji4, ← hji7, ← hji10]; first | rfl | (simp [errW_none, errW_some] <;> rfl)) | (simp [*, errW_none, errW_some] <;> rfl), by repeat (first | (with_reducible first | exact HB.out | apply below_alloc | apply pw_below_drewN | apply below_drew1) | exact HB.out)⟩
                · rw [if_neg c18] at H
                  have c18b0 : (t207 == t208) = false := by simpa using c18
                  (try (have c18b1 : decide (t207 = t208) = false := by simpa using c18))
                  (try (have c18b2 : (t207 == t208) = false := by simpa using c18))
                  (try (have c18b3 : ¬ (t207 = t208) := by simpa using c18))
                  clear c18
                  obtain rfl := Option.some.inj H
                  go_enter Tryd.func4, Tryd.ntmps4
                  go_wp2_with (first | ((with_reducible refine gate_callee (f := 21) rfl ?_); refine goesL_ (some 24) rfl rfl Tryd.func21 (by kernel_rfl) rfl #[.string Sji4, .string Sji10] rfl (by (try simp only [List.map_toArray, List.map_cons, List.map_nil]); first | done | (simp only [hji10, hji4]; rfl) | rfl | (simp only [List.length_drop, List.length_take]; rfl)) ?_; (with_reducible refine (topic_Match.calls Sji4 Sji10 t205 _ A13.out).mono ?_); rintro e w36 ⟨rfl, hb⟩; refine ⟨_, rfl, ?_⟩; have n0_ := Aside0.mk (below_step (by repeat (first | (with_reducible first | exact HB.out | apply below_alloc | apply pw_below_drewN | apply below_drew1) | exact HB.out)) hb); clear HB; have HB := n0_; clear n0_; (try clear hb); (try clear hb2); (try clear hk); (try clear hi)) | ((with_reducible refine gate_callee (f := 22) rfl ?_); refine goesL_ (some 27) rfl rfl Tryd.func22 (by kernel_rfl) rfl #[.string Sji4, .string Sji10] rfl (by (try simp only [List.map_toArray, List.map_cons, List.map_nil]); first | done | (simp only [hji10, hji4]; rfl) | rfl | (simp only [List.length_drop, List.length_take]; rfl)) ?_; (with_reducible refine (rivuletref03_Match.calls k Sji4 Sji10 t206 _ A14.out).mono ?_); rintro e w37 ⟨rfl, hb⟩; refine ⟨_, rfl, ?_⟩; have n0_ := Aside0.mk (below_step (by repeat (first | (with_reducible first | exact HB.out | apply below_alloc | apply pw_below_drewN | apply below_drew1) | exact HB.out)) hb); clear HB; have HB := n0_; clear n0_; (try clear hb); (try clear hb2); (try clear hk); (try clear hi)) | (go_at_call 23; (with_reducible refine (topic_Covers.calls Sji4 Sji7 t207 _ A16.out).mono ?_); rintro e w38 ⟨rfl, hb⟩; have n0_ := Aside0.mk (below_step (by repeat (first | (with_reducible first | exact HB.out | apply below_alloc | apply pw_below_drewN | apply below_drew1) | exact HB.out)) hb); clear HB; have HB := n0_; clear n0_; (try clear hb); (try clear hb2); (try clear hk); (try clear hi)) | (go_at_call 24; (with_reducible refine (rivuletref03_Covers.calls k Sji4 Sji7 t208 _ A17.out).mono ?_); rintro e w39 ⟨rfl, hb⟩; have n0_ := Aside0.mk (below_step (by repeat (first | (with_reducible first | exact HB.out | apply below_alloc | apply pw_below_drewN | apply below_drew1) | exact HB.out)) hb); clear HB; have HB := n0_; clear n0_; (try clear hb); (try clear hb2); (try clear hk); (try clear hi)))
                  go_ret
                  exact ⟨by first | rfl | (simp [errW_none, errW_some] <;> rfl) | (simp only [← hji4, ← hji7, ← hji10]; first | rfl | (simp [errW_none, errW_some] <;> rfl)) | (simp [*, errW_none, errW_some] <;> rfl), by repeat (first | (with_reducible first | exact HB.out | apply below_alloc | apply pw_below_drewN | apply below_drew1) | exact HB.out)⟩
              · rw [if_neg c15] at H
                have c15b0 : (t205 == t206) = false := by simpa using c15
                (try (have c15b1 : decide (t205 = t206) = false := by simpa using c15))
                (try (have c15b2 : (t205 == t206) = false := by simpa using c15))
                (try (have c15b3 : ¬ (t205 = t206) := by simpa using c15))
                clear c15
                obtain rfl := Option.some.inj H
                go_enter Tryd.func4, Tryd.ntmps4
                go_wp2_with (first | ((with_reducible refine gate_callee (f := 21) rfl ?_); refine goesL_ (some 24) rfl rfl Tryd.func21 (by kernel_rfl) rfl #[.string Sji4, .string Sji10] rfl (by (try simp only [List.map_toArray, List.map_cons, List.map_nil]); first | done | (simp only [hji10, hji4]; rfl) | rfl | (simp only [List.length_drop, List.length_take]; rfl)) ?_; (with_reducible refine (topic_Match.calls Sji4 Sji10 t205 _ A13.out).mono ?_); rintro e w40 ⟨rfl, hb⟩; refine ⟨_, rfl, ?_⟩; have n0_ := Aside0.mk (below_step (by repeat (first | (with_reducible first | exact HB.out | apply below_alloc | apply pw_below_drewN | apply below_drew1) | exact HB.out)) hb); clear HB; have HB := n0_; clear n0_; (try clear hb); (try clear hb2); (try clear hk); (try clear hi)) | ((with_reducible refine gate_callee (f := 22) rfl ?_); refine goesL_ (some 27) rfl rfl Tryd.func22 (by kernel_rfl) rfl #[.string Sji4, .string Sji10] rfl (by (try simp only [List.map_toArray, List.map_cons, List.map_nil]); first | done | (simp only [hji10, hji4]; rfl) | rfl | (simp only [List.length_drop, List.length_take]; rfl)) ?_; (with_reducible refine (rivuletref03_Match.calls k Sji4 Sji10 t206 _ A14.out).mono ?_); rintro e w41 ⟨rfl, hb⟩; refine ⟨_, rfl, ?_⟩; have n0_ := Aside0.mk (below_step (by repeat (first | (with_reducible first | exact HB.out | apply below_alloc | apply pw_below_drewN | apply below_drew1) | exact HB.out)) hb); clear HB; have HB := n0_; clear n0_; (try clear hb); (try clear hb2); (try clear hk); (try clear hi)))
                go_ret
                exact ⟨by first | rfl | (simp [errW_none, errW_some] <;> rfl) | (simp only [← hji4, ← hji7, ← hji10]; first | rfl | (simp [errW_none, errW_some] <;> rfl)) | (simp [*, errW_none, errW_some] <;> rfl), by repeat (first | (with_reducible first | exact HB.out | apply below_alloc | apply pw_below_drewN | apply below_drew1) | exact HB.out)⟩
            · rw [if_neg c12] at H
              exact absurd H (by simp)
          · rw [if_neg c11] at H
            exact absurd H (by simp)
        · rw [if_neg c9] at H
          exact absurd H (by simp)
      · rw [if_neg c8] at H
        exact absurd H (by simp)
    · rw [if_neg c6] at H
      exact absurd H (by simp)
  · rw [if_neg c5] at H
    exact absurd H (by simp)

/-- THE ONE PURE STATEMENT of rivuletlaw03_TopicLets: yours. -/
def rivuletlaw03_TopicLets.Pure : Prop := ∀ (a0 : ByteArray) (a1 : ByteArray) (a2 : ByteArray), a0.size ≤ 140737488351232 → a1.size ≤ 140737488351232 → a2.size ≤ 140737488351232 → ∃ k, rivuletlaw03_TopicLets.f k a0 a1 a2 = some true
theorem rivuletlaw03_TopicLets.walk (P : rivuletlaw03_TopicLets.Pure) (a0 : ByteArray) (a1 : ByteArray) (a2 : ByteArray) (w : World) (w0 : a0.size ≤ 140737488351232) (w1 : a1.size ≤ 140737488351232) (w2 : a2.size ≤ 140737488351232) :
    Calls Tryd.prog 4 #[.string a0, .string a1, .string a2] w fun e w' => e = .returned (.bool true) ∧ Below w.heap.size w w' := by
  obtain ⟨k, h⟩ := P a0 a1 a2 w0 w1 w2
  refine (rivuletlaw03_TopicLets.calls k a0 a1 a2 true w h).mono ?_
  rintro e w' ⟨rfl, hd⟩
  exact ⟨rfl, hd⟩

end Go.Proofs.YtfakimleoihfgaaDoor.Pr
