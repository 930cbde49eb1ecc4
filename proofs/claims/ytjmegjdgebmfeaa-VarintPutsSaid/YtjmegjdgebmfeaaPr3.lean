-- Printed by this session's changed copy of the kit's printer (wip/tools/mkprint.py; some functions are given by hand). Lean checks it.
import Derived.Test.YtjmegjdgebmfeaaPr0
import Derived.Test.YtjmegjdgebmfeaaPr1
import Derived.Test.YtjmegjdgebmfeaaPr2
namespace Go.Proofs.Ytjmegjdgebmfeaa.Pr
open Go.RowKit Go.Proofs.YtjmegjdgebmfeaaW.PrintWords Go.Proofs.YtjmegjdgebmfeaaW.PrintLast Go.Proofs.YtjmegjdgebmfeaaW.PrintMore
attribute [local go_sem] max2_int min2_int max_two min_two max_three min_three max_four min_four   -- for this text's walks alone
set_option linter.unusedVariables false
set_option linter.unusedSimpArgs false

/-! ### rivuletlaw01_VarintPuts: function 3 -/
def rivuletlaw01_VarintPuts.f (k : Nat) (a0 : Int) (a1 : ByteArray) (a2 : ByteArray) : Option (Bool) := if 0 ≤ (mn (a1.size : Int) 300) then (if (mn (a1.size : Int) 300) ≤ (a1.size : Int) then (if 0 ≤ (mn (a2.size : Int) 300) then (if (mn (a2.size : Int) 300) ≤ (a2.size : Int) then ((varint_Put.f k a0).bind fun t140 => ((rivuletref01_Put.f k a0).bind fun t141 => (if t140.toList = t141.toList then ((varint_Size.f a0).bind fun t142 => ((rivuletref01_Put.f k a0).bind fun t143 => (if t142 = (t143.size : Int) then ((varint_Text.f k (a1.extract 0 ((mn (a1.size : Int) 300) : Int).toNat)).bind fun t144 => ((rivuletref01_Text.f k (a1.extract 0 ((mn (a1.size : Int) 300) : Int).toNat)).bind fun t145 => (if t144.toList = t145.toList then ((varint_Less.f (a1.extract 0 ((mn (a1.size : Int) 300) : Int).toNat) (a2.extract 0 ((mn (a2.size : Int) 300) : Int).toNat)).bind fun t146 => ((rivuletref01_Less.f k (a1.extract 0 ((mn (a1.size : Int) 300) : Int).toNat) (a2.extract 0 ((mn (a2.size : Int) 300) : Int).toNat)).bind fun t147 => (if (t146 == t147) = true then ((rivuletlaw01_fixed.f).bind fun t148 => (some t148)) else (some false)))) else (some false)))) else (some false)))) else (some false)))) else (none)) else (none)) else (none)) else (none)
theorem rivuletlaw01_VarintPuts.mono : ∀ a0 a1 a2 k, LeO (rivuletlaw01_VarintPuts.f k a0 a1 a2) (rivuletlaw01_VarintPuts.f (k + 1) a0 a1 a2) := by
  intro a0 a1 a2 k
  unfold rivuletlaw01_VarintPuts.f
  repeat' first
      | (with_reducible exact rivuletref01_Less.mono _ _ _)
      | (with_reducible exact rivuletref01_Put.mono _ _)
      | (with_reducible exact rivuletref01_Text.mono _ _)
      | (with_reducible exact varint_Put.mono _ _)
      | (with_reducible exact varint_Text.mono _ _)
      | (with_reducible exact LeO.refl _)
      | (with_reducible exact LeO.none _)
      | (with_reducible refine LeO.ite ?_ ?_)
      | (with_reducible refine LeO.bind ?_ (fun _ => ?_))
      | exact rivuletref01_Less.mono _ _ _
      | exact rivuletref01_Put.mono _ _
      | exact rivuletref01_Text.mono _ _
      | exact varint_Put.mono _ _
      | exact varint_Text.mono _ _
      | exact LeO.none _
      | refine LeO.ite ?_ ?_
      | refine LeO.bind ?_ (fun _ => ?_)
set_option maxHeartbeats 8000000 in
set_option maxRecDepth 100000 in
theorem rivuletlaw01_VarintPuts.calls (k : Nat) (a0 : Int) (a1 : ByteArray) (a2 : ByteArray) (r : Bool) (w : World) (h : rivuletlaw01_VarintPuts.f k a0 a1 a2 = some r) :
    Calls Try.prog 3 #[.int .u64 a0, .string a1, .string a2] w fun e w' => e = .returned (.bool r) ∧ Below w.heap.size w w' := by
  have HB := Aside0.mk (Below.refl w.heap.size w)
  have H : (if 0 ≤ (mn (a1.size : Int) 300) then (if (mn (a1.size : Int) 300) ≤ (a1.size : Int) then (if 0 ≤ (mn (a2.size : Int) 300) then (if (mn (a2.size : Int) 300) ≤ (a2.size : Int) then ((varint_Put.f k a0).bind fun t140 => ((rivuletref01_Put.f k a0).bind fun t141 => (if t140.toList = t141.toList then ((varint_Size.f a0).bind fun t142 => ((rivuletref01_Put.f k a0).bind fun t143 => (if t142 = (t143.size : Int) then ((varint_Text.f k (a1.extract 0 ((mn (a1.size : Int) 300) : Int).toNat)).bind fun t144 => ((rivuletref01_Text.f k (a1.extract 0 ((mn (a1.size : Int) 300) : Int).toNat)).bind fun t145 => (if t144.toList = t145.toList then ((varint_Less.f (a1.extract 0 ((mn (a1.size : Int) 300) : Int).toNat) (a2.extract 0 ((mn (a2.size : Int) 300) : Int).toNat)).bind fun t146 => ((rivuletref01_Less.f k (a1.extract 0 ((mn (a1.size : Int) 300) : Int).toNat) (a2.extract 0 ((mn (a2.size : Int) 300) : Int).toNat)).bind fun t147 => (if (t146 == t147) = true then ((rivuletlaw01_fixed.f).bind fun t148 => (some t148)) else (some false)))) else (some false)))) else (some false)))) else (some false)))) else (none)) else (none)) else (none)) else (none)) = some r := h
  clear h
  obtain ⟨ji4, hji4⟩ : ∃ j_ : Int, (mn (a1.size : Int) 300) = j_ := ⟨_, rfl⟩
  replace H : (if 0 ≤ (ji4) then (if (ji4) ≤ (a1.size : Int) then (if 0 ≤ (mn (a2.size : Int) 300) then (if (mn (a2.size : Int) 300) ≤ (a2.size : Int) then ((varint_Put.f k a0).bind fun t140 => ((rivuletref01_Put.f k a0).bind fun t141 => (if t140.toList = t141.toList then ((varint_Size.f a0).bind fun t142 => ((rivuletref01_Put.f k a0).bind fun t143 => (if t142 = (t143.size : Int) then ((varint_Text.f k (a1.extract 0 ((ji4) : Int).toNat)).bind fun t144 => ((rivuletref01_Text.f k (a1.extract 0 ((ji4) : Int).toNat)).bind fun t145 => (if t144.toList = t145.toList then ((varint_Less.f (a1.extract 0 ((ji4) : Int).toNat) (a2.extract 0 ((mn (a2.size : Int) 300) : Int).toNat)).bind fun t146 => ((rivuletref01_Less.f k (a1.extract 0 ((ji4) : Int).toNat) (a2.extract 0 ((mn (a2.size : Int) 300) : Int).toNat)).bind fun t147 => (if (t146 == t147) = true then ((rivuletlaw01_fixed.f).bind fun t148 => (some t148)) else (some false)))) else (some false)))) else (some false)))) else (some false)))) else (none)) else (none)) else (none)) else (none)) = some r := by first | (rw [hji4] at H; exact H) | (simp only [hji4] at H ⊢; exact H)
  (try (have hji4h : ji4 ≤ 300 := by (rw [← hji4]; unfold mn; (repeat' split) <;> omega)))
  (try (have hji4g : ji4 ≤ 64 := by omega))
  (try (have hji4l : 0 ≤ ji4 := by (rw [← hji4]; unfold mn; (repeat' split) <;> omega)))
  (try (have hji4m : 0 ≤ ji4 := by omega))
  have hji4_ : (if 300 < (a1.size : Int) then 300 else (a1.size : Int)) = ji4 := hji4
  by_cases c5 : 0 ≤ (ji4)
  · rw [if_pos c5] at H
    have c5b0 := eq_true c5
    have c5b1 : decide (0 ≤ (ji4)) = true := decide_eq_true c5
    clear c5
    by_cases c6 : (ji4) ≤ (a1.size : Int)
    · rw [if_pos c6] at H
      have c6b0 := eq_true c6
      have c6b1 : decide ((ji4) ≤ (a1.size : Int)) = true := decide_eq_true c6
      clear c6
      obtain ⟨ji7, hji7⟩ : ∃ j_ : Int, (mn (a2.size : Int) 300) = j_ := ⟨_, rfl⟩
      replace H : (if 0 ≤ (ji7) then (if (ji7) ≤ (a2.size : Int) then ((varint_Put.f k a0).bind fun t140 => ((rivuletref01_Put.f k a0).bind fun t141 => (if t140.toList = t141.toList then ((varint_Size.f a0).bind fun t142 => ((rivuletref01_Put.f k a0).bind fun t143 => (if t142 = (t143.size : Int) then ((varint_Text.f k (a1.extract 0 ((ji4) : Int).toNat)).bind fun t144 => ((rivuletref01_Text.f k (a1.extract 0 ((ji4) : Int).toNat)).bind fun t145 => (if t144.toList = t145.toList then ((varint_Less.f (a1.extract 0 ((ji4) : Int).toNat) (a2.extract 0 ((ji7) : Int).toNat)).bind fun t146 => ((rivuletref01_Less.f k (a1.extract 0 ((ji4) : Int).toNat) (a2.extract 0 ((ji7) : Int).toNat)).bind fun t147 => (if (t146 == t147) = true then ((rivuletlaw01_fixed.f).bind fun t148 => (some t148)) else (some false)))) else (some false)))) else (some false)))) else (some false)))) else (none)) else (none)) = some r := by first | (rw [hji7] at H; exact H) | (simp only [hji7] at H ⊢; exact H)
      (try (have hji7h : ji7 ≤ 300 := by (rw [← hji7]; unfold mn; (repeat' split) <;> omega)))
      (try (have hji7g : ji7 ≤ 64 := by omega))
      (try (have hji7l : 0 ≤ ji7 := by (rw [← hji7]; unfold mn; (repeat' split) <;> omega)))
      (try (have hji7m : 0 ≤ ji7 := by omega))
      have hji7_ : (if 300 < (a2.size : Int) then 300 else (a2.size : Int)) = ji7 := hji7
      by_cases c8 : 0 ≤ (ji7)
      · rw [if_pos c8] at H
        have c8b0 := eq_true c8
        have c8b1 : decide (0 ≤ (ji7)) = true := decide_eq_true c8
        clear c8
        by_cases c9 : (ji7) ≤ (a2.size : Int)
        · rw [if_pos c9] at H
          have c9b0 := eq_true c9
          have c9b1 : decide ((ji7) ≤ (a2.size : Int)) = true := decide_eq_true c9
          clear c9
          replace H := Option.bind_eq_some_iff.mp H
          obtain ⟨t140, A100, H⟩ := H
          replace H : ((rivuletref01_Put.f k a0).bind fun t141 => (if t140.toList = t141.toList then ((varint_Size.f a0).bind fun t142 => ((rivuletref01_Put.f k a0).bind fun t143 => (if t142 = (t143.size : Int) then ((varint_Text.f k (a1.extract 0 ((ji4) : Int).toNat)).bind fun t144 => ((rivuletref01_Text.f k (a1.extract 0 ((ji4) : Int).toNat)).bind fun t145 => (if t144.toList = t145.toList then ((varint_Less.f (a1.extract 0 ((ji4) : Int).toNat) (a2.extract 0 ((ji7) : Int).toNat)).bind fun t146 => ((rivuletref01_Less.f k (a1.extract 0 ((ji4) : Int).toNat) (a2.extract 0 ((ji7) : Int).toNat)).bind fun t147 => (if (t146 == t147) = true then ((rivuletlaw01_fixed.f).bind fun t148 => (some t148)) else (some false)))) else (some false)))) else (some false)))) else (some false))) = some r := H
          have A10 := Aside0.mk A100
          clear A100
          replace H := Option.bind_eq_some_iff.mp H
          obtain ⟨t141, A110, H⟩ := H
          replace H : (if t140.toList = t141.toList then ((varint_Size.f a0).bind fun t142 => ((rivuletref01_Put.f k a0).bind fun t143 => (if t142 = (t143.size : Int) then ((varint_Text.f k (a1.extract 0 ((ji4) : Int).toNat)).bind fun t144 => ((rivuletref01_Text.f k (a1.extract 0 ((ji4) : Int).toNat)).bind fun t145 => (if t144.toList = t145.toList then ((varint_Less.f (a1.extract 0 ((ji4) : Int).toNat) (a2.extract 0 ((ji7) : Int).toNat)).bind fun t146 => ((rivuletref01_Less.f k (a1.extract 0 ((ji4) : Int).toNat) (a2.extract 0 ((ji7) : Int).toNat)).bind fun t147 => (if (t146 == t147) = true then ((rivuletlaw01_fixed.f).bind fun t148 => (some t148)) else (some false)))) else (some false)))) else (some false)))) else (some false)) = some r := H
          have A11 := Aside0.mk A110
          clear A110
          by_cases c12 : t140.toList = t141.toList
          · rw [if_pos c12] at H
            have c12b0 : (t140.toList == t141.toList) = true := beq_iff_eq.mpr c12
            have c12b1 : (t140.toList != t141.toList) = false := bne_eq_false_iff_eq.mpr c12
            clear c12
            replace H := Option.bind_eq_some_iff.mp H
            obtain ⟨t142, A130, H⟩ := H
            replace H : ((rivuletref01_Put.f k a0).bind fun t143 => (if t142 = (t143.size : Int) then ((varint_Text.f k (a1.extract 0 ((ji4) : Int).toNat)).bind fun t144 => ((rivuletref01_Text.f k (a1.extract 0 ((ji4) : Int).toNat)).bind fun t145 => (if t144.toList = t145.toList then ((varint_Less.f (a1.extract 0 ((ji4) : Int).toNat) (a2.extract 0 ((ji7) : Int).toNat)).bind fun t146 => ((rivuletref01_Less.f k (a1.extract 0 ((ji4) : Int).toNat) (a2.extract 0 ((ji7) : Int).toNat)).bind fun t147 => (if (t146 == t147) = true then ((rivuletlaw01_fixed.f).bind fun t148 => (some t148)) else (some false)))) else (some false)))) else (some false))) = some r := H
            have A13 := Aside0.mk A130
            clear A130
            replace H := Option.bind_eq_some_iff.mp H
            obtain ⟨t143, A140, H⟩ := H
            replace H : (if t142 = (t143.size : Int) then ((varint_Text.f k (a1.extract 0 ((ji4) : Int).toNat)).bind fun t144 => ((rivuletref01_Text.f k (a1.extract 0 ((ji4) : Int).toNat)).bind fun t145 => (if t144.toList = t145.toList then ((varint_Less.f (a1.extract 0 ((ji4) : Int).toNat) (a2.extract 0 ((ji7) : Int).toNat)).bind fun t146 => ((rivuletref01_Less.f k (a1.extract 0 ((ji4) : Int).toNat) (a2.extract 0 ((ji7) : Int).toNat)).bind fun t147 => (if (t146 == t147) = true then ((rivuletlaw01_fixed.f).bind fun t148 => (some t148)) else (some false)))) else (some false)))) else (some false)) = some r := H
            have A14 := Aside0.mk A140
            clear A140
            by_cases c15 : t142 = (t143.size : Int)
            · rw [if_pos c15] at H
              have c15b0 : (t142 == (t143.size : Int)) = true := beq_iff_eq.mpr c15
              have c15b1 : (t142 != (t143.size : Int)) = false := bne_eq_false_iff_eq.mpr c15
              clear c15
              replace H := Option.bind_eq_some_iff.mp H
              obtain ⟨t144, A160, H⟩ := H
              replace H : ((rivuletref01_Text.f k (a1.extract 0 ((ji4) : Int).toNat)).bind fun t145 => (if t144.toList = t145.toList then ((varint_Less.f (a1.extract 0 ((ji4) : Int).toNat) (a2.extract 0 ((ji7) : Int).toNat)).bind fun t146 => ((rivuletref01_Less.f k (a1.extract 0 ((ji4) : Int).toNat) (a2.extract 0 ((ji7) : Int).toNat)).bind fun t147 => (if (t146 == t147) = true then ((rivuletlaw01_fixed.f).bind fun t148 => (some t148)) else (some false)))) else (some false))) = some r := H
              have A16 := Aside0.mk A160
              clear A160
              replace H := Option.bind_eq_some_iff.mp H
              obtain ⟨t145, A170, H⟩ := H
              replace H : (if t144.toList = t145.toList then ((varint_Less.f (a1.extract 0 ((ji4) : Int).toNat) (a2.extract 0 ((ji7) : Int).toNat)).bind fun t146 => ((rivuletref01_Less.f k (a1.extract 0 ((ji4) : Int).toNat) (a2.extract 0 ((ji7) : Int).toNat)).bind fun t147 => (if (t146 == t147) = true then ((rivuletlaw01_fixed.f).bind fun t148 => (some t148)) else (some false)))) else (some false)) = some r := H
              have A17 := Aside0.mk A170
              clear A170
              by_cases c18 : t144.toList = t145.toList
              · rw [if_pos c18] at H
                have c18b0 : (t144.toList == t145.toList) = true := beq_iff_eq.mpr c18
                have c18b1 : (t144.toList != t145.toList) = false := bne_eq_false_iff_eq.mpr c18
                clear c18
                replace H := Option.bind_eq_some_iff.mp H
                obtain ⟨t146, A190, H⟩ := H
                replace H : ((rivuletref01_Less.f k (a1.extract 0 ((ji4) : Int).toNat) (a2.extract 0 ((ji7) : Int).toNat)).bind fun t147 => (if (t146 == t147) = true then ((rivuletlaw01_fixed.f).bind fun t148 => (some t148)) else (some false))) = some r := H
                have A19 := Aside0.mk A190
                clear A190
                replace H := Option.bind_eq_some_iff.mp H
                obtain ⟨t147, A200, H⟩ := H
                replace H : (if (t146 == t147) = true then ((rivuletlaw01_fixed.f).bind fun t148 => (some t148)) else (some false)) = some r := H
                have A20 := Aside0.mk A200
                clear A200
                by_cases c21 : (t146 == t147) = true
                · rw [if_pos c21] at H
                  have c21b0 : (t146 == t147) = true := c21
                  (try (have c21b1 : decide (t146 = t147) = true := by simpa using c21))
                  (try (have c21b2 : (t146 == t147) = true := by simpa using c21))
                  clear c21
                  replace H := Option.bind_eq_some_iff.mp H
                  obtain ⟨t148, A220, H⟩ := H
                  replace H : (some t148) = some r := H
                  have A22 := Aside0.mk A220
                  clear A220
                  obtain rfl := Option.some.inj H
                  go_enter Try.func3, Try.ntmps3
                  go_wp2_with (first | ((with_reducible refine gate_callee (f := 11) rfl ?_); refine goesL_ (some 18) rfl rfl Try.func11 (by kernel_rfl) rfl #[.int .u64 a0] rfl (by (try simp only [List.map_toArray, List.map_cons, List.map_nil]); first | done | rfl | (simp only [List.length_drop, List.length_take]; rfl)) ?_; (with_reducible refine (varint_Put.calls k a0 t140 _ A10.out).mono ?_); rintro e w23 ⟨rfl, hb⟩; refine ⟨_, rfl, ?_⟩; have n0_ := Aside0.mk (below_step (by repeat (first | (with_reducible first | exact HB.out | apply below_alloc | apply pw_below_drewN | apply below_drew1) | exact HB.out)) hb); clear HB; have HB := n0_; clear n0_; (try clear hb); (try clear hb2); (try clear hk); (try clear hi)) | ((with_reducible refine gate_callee (f := 12) rfl ?_); refine goesL_ (some 20) rfl rfl Try.func12 (by kernel_rfl) rfl #[.int .u64 a0] rfl (by (try simp only [List.map_toArray, List.map_cons, List.map_nil]); first | done | rfl | (simp only [List.length_drop, List.length_take]; rfl)) ?_; (with_reducible refine (rivuletref01_Put.calls k a0 t141 _ A11.out).mono ?_); rintro e w24 ⟨rfl, hb⟩; refine ⟨_, rfl, ?_⟩; have n0_ := Aside0.mk (below_step (by repeat (first | (with_reducible first | exact HB.out | apply below_alloc | apply pw_below_drewN | apply below_drew1) | exact HB.out)) hb); clear HB; have HB := n0_; clear n0_; (try clear hb); (try clear hb2); (try clear hk); (try clear hi)) | (go_at_call 13; (with_reducible refine (varint_Size.calls a0 t142 _ A13.out).mono ?_); rintro e w25 ⟨rfl, hb⟩; have n0_ := Aside0.mk (below_step (by repeat (first | (with_reducible first | exact HB.out | apply below_alloc | apply pw_below_drewN | apply below_drew1) | exact HB.out)) hb); clear HB; have HB := n0_; clear n0_; (try clear hb); (try clear hb2); (try clear hk); (try clear hi)) | (go_at_call 12; (with_reducible refine (rivuletref01_Put.calls k a0 t143 _ A14.out).mono ?_); rintro e w26 ⟨rfl, hb⟩; have n0_ := Aside0.mk (below_step (by repeat (first | (with_reducible first | exact HB.out | apply below_alloc | apply pw_below_drewN | apply below_drew1) | exact HB.out)) hb); clear HB; have HB := n0_; clear n0_; (try clear hb); (try clear hb2); (try clear hk); (try clear hi)) | (go_at_call 14; (with_reducible refine (varint_Text.calls k (a1.extract 0 ((ji4) : Int).toNat) t144 _ A16.out).mono ?_); rintro e w27 ⟨rfl, hb⟩; have n0_ := Aside0.mk (below_step (by repeat (first | (with_reducible first | exact HB.out | apply below_alloc | apply pw_below_drewN | apply below_drew1) | exact HB.out)) hb); clear HB; have HB := n0_; clear n0_; (try clear hb); (try clear hb2); (try clear hk); (try clear hi)) | (go_at_call 15; (with_reducible refine (rivuletref01_Text.calls k (a1.extract 0 ((ji4) : Int).toNat) t145 _ A17.out).mono ?_); rintro e w28 ⟨rfl, hb⟩; have n0_ := Aside0.mk (below_step (by repeat (first | (with_reducible first | exact HB.out | apply below_alloc | apply pw_below_drewN | apply below_drew1) | exact HB.out)) hb); clear HB; have HB := n0_; clear n0_; (try clear hb); (try clear hb2); (try clear hk); (try clear hi)) | (go_at_call 16; (with_reducible refine (varint_Less.calls (a1.extract 0 ((ji4) : Int).toNat) (a2.extract 0 ((ji7) : Int).toNat) t146 _ A19.out).mono ?_); rintro e w' ⟨rfl, ⟨nd, rfl⟩⟩) | (go_at_call 17; (with_reducible refine (rivuletref01_Less.calls k (a1.extract 0 ((ji4) : Int).toNat) (a2.extract 0 ((ji7) : Int).toNat) t147 _ A20.out).mono ?_); rintro e w' ⟨rfl, ⟨nd, rfl⟩⟩) | (go_at_call 18; (with_reducible refine (rivuletlaw01_fixed.calls  t148 _ A22.out).mono ?_); rintro e w29 ⟨rfl, hb⟩; have n0_ := Aside0.mk (below_step (by repeat (first | (with_reducible first | exact HB.out | apply below_alloc | apply pw_below_drewN | apply below_drew1) | exact HB.out)) hb); clear HB; have HB := n0_; clear n0_; (try clear hb); (try clear hb2); (try clear hk); (try clear hi)))
                  go_ret
                  exact ⟨by first | rfl | (simp [errW_none, errW_some] <;> rfl) | (simp only [← hji4, ← hji7]; first | rfl | (simp [errW_none, errW_some] <;> rfl)) | (simp [*, errW_none, errW_some] <;> rfl), by repeat (first | (with_reducible first | exact HB.out | apply below_alloc | apply pw_below_drewN | apply below_drew1) | exact HB.out)⟩
                · rw [if_neg c21] at H
                  have c21b0 : (t146 == t147) = false := by simpa using c21
                  (try (have c21b1 : decide (t146 = t147) = false := by simpa using c21))
                  (try (have c21b2 : (t146 == t147) = false := by simpa using c21))
                  (try (have c21b3 : ¬ (t146 = t147) := by simpa using c21))
                  clear c21
                  obtain rfl := Option.some.inj H
                  go_enter Try.func3, Try.ntmps3
                  go_wp2_with (first | ((with_reducible refine gate_callee (f := 11) rfl ?_); refine goesL_ (some 18) rfl rfl Try.func11 (by kernel_rfl) rfl #[.int .u64 a0] rfl (by (try simp only [List.map_toArray, List.map_cons, List.map_nil]); first | done | rfl | (simp only [List.length_drop, List.length_take]; rfl)) ?_; (with_reducible refine (varint_Put.calls k a0 t140 _ A10.out).mono ?_); rintro e w30 ⟨rfl, hb⟩; refine ⟨_, rfl, ?_⟩; have n0_ := Aside0.mk (below_step (by repeat (first | (with_reducible first | exact HB.out | apply below_alloc | apply pw_below_drewN | apply below_drew1) | exact HB.out)) hb); clear HB; have HB := n0_; clear n0_; (try clear hb); (try clear hb2); (try clear hk); (try clear hi)) | ((with_reducible refine gate_callee (f := 12) rfl ?_); refine goesL_ (some 20) rfl rfl Try.func12 (by kernel_rfl) rfl #[.int .u64 a0] rfl (by (try simp only [List.map_toArray, List.map_cons, List.map_nil]); first | done | rfl | (simp only [List.length_drop, List.length_take]; rfl)) ?_; (with_reducible refine (rivuletref01_Put.calls k a0 t141 _ A11.out).mono ?_); rintro e w31 ⟨rfl, hb⟩; refine ⟨_, rfl, ?_⟩; have n0_ := Aside0.mk (below_step (by repeat (first | (with_reducible first | exact HB.out | apply below_alloc | apply pw_below_drewN | apply below_drew1) | exact HB.out)) hb); clear HB; have HB := n0_; clear n0_; (try clear hb); (try clear hb2); (try clear hk); (try clear hi)) | (go_at_call 13; (with_reducible refine (varint_Size.calls a0 t142 _ A13.out).mono ?_); rintro e w32 ⟨rfl, hb⟩; have n0_ := Aside0.mk (below_step (by repeat (first | (with_reducible first | exact HB.out | apply below_alloc | apply pw_below_drewN | apply below_drew1) | exact HB.out)) hb); clear HB; have HB := n0_; clear n0_; (try clear hb); (try clear hb2); (try clear hk); (try clear hi)) | (go_at_call 12; (with_reducible refine (rivuletref01_Put.calls k a0 t143 _ A14.out).mono ?_); rintro e w33 ⟨rfl, hb⟩; have n0_ := Aside0.mk (below_step (by repeat (first | (with_reducible first | exact HB.out | apply below_alloc | apply pw_below_drewN | apply below_drew1) | exact HB.out)) hb); clear HB; have HB := n0_; clear n0_; (try clear hb); (try clear hb2); (try clear hk); (try clear hi)) | (go_at_call 14; (with_reducible refine (varint_Text.calls k (a1.extract 0 ((ji4) : Int).toNat) t144 _ A16.out).mono ?_); rintro e w34 ⟨rfl, hb⟩; have n0_ := Aside0.mk (below_step (by repeat (first | (with_reducible first | exact HB.out | apply below_alloc | apply pw_below_drewN | apply below_drew1) | exact HB.out)) hb); clear HB; have HB := n0_; clear n0_; (try clear hb); (try clear hb2); (try clear hk); (try clear hi)) | (go_at_call 15; (with_reducible refine (rivuletref01_Text.calls k (a1.extract 0 ((ji4) : Int).toNat) t145 _ A17.out).mono ?_); rintro e w35 ⟨rfl, hb⟩; have n0_ := Aside0.mk (below_step (by repeat (first | (with_reducible first | exact HB.out | apply below_alloc | apply pw_below_drewN | apply below_drew1) | exact HB.out)) hb); clear HB; have HB := n0_; clear n0_; (try clear hb); (try clear hb2); (try clear hk); (try clear hi)) | (go_at_call 16; (with_reducible refine (varint_Less.calls (a1.extract 0 ((ji4) : Int).toNat) (a2.extract 0 ((ji7) : Int).toNat) t146 _ A19.out).mono ?_); rintro e w' ⟨rfl, ⟨nd, rfl⟩⟩) | (go_at_call 17; (with_reducible refine (rivuletref01_Less.calls k (a1.extract 0 ((ji4) : Int).toNat) (a2.extract 0 ((ji7) : Int).toNat) t147 _ A20.out).mono ?_); rintro e w' ⟨rfl, ⟨nd, rfl⟩⟩))
                  go_ret
                  exact ⟨by first | rfl | (simp [errW_none, errW_some] <;> rfl) | (simp only [← hji4, ← hji7]; first | rfl | (simp [errW_none, errW_some] <;> rfl)) | (simp [*, errW_none, errW_some] <;> rfl), by repeat (first | (with_reducible first | exact HB.out | apply below_alloc | apply pw_below_drewN | apply below_drew1) | exact HB.out)⟩
              · rw [if_neg c18] at H
                have c18b0 : (t144.toList == t145.toList) = false := beq_eq_false_iff_ne.mpr c18
                have c18b1 : (t144.toList != t145.toList) = true := bne_iff_ne.mpr c18
                obtain rfl := Option.some.inj H
                go_enter Try.func3, Try.ntmps3
                go_wp2_with (first | ((with_reducible refine gate_callee (f := 11) rfl ?_); refine goesL_ (some 18) rfl rfl Try.func11 (by kernel_rfl) rfl #[.int .u64 a0] rfl (by (try simp only [List.map_toArray, List.map_cons, List.map_nil]); first | done | rfl | (simp only [List.length_drop, List.length_take]; rfl)) ?_; (with_reducible refine (varint_Put.calls k a0 t140 _ A10.out).mono ?_); rintro e w36 ⟨rfl, hb⟩; refine ⟨_, rfl, ?_⟩; have n0_ := Aside0.mk (below_step (by repeat (first | (with_reducible first | exact HB.out | apply below_alloc | apply pw_below_drewN | apply below_drew1) | exact HB.out)) hb); clear HB; have HB := n0_; clear n0_; (try clear hb); (try clear hb2); (try clear hk); (try clear hi)) | ((with_reducible refine gate_callee (f := 12) rfl ?_); refine goesL_ (some 20) rfl rfl Try.func12 (by kernel_rfl) rfl #[.int .u64 a0] rfl (by (try simp only [List.map_toArray, List.map_cons, List.map_nil]); first | done | rfl | (simp only [List.length_drop, List.length_take]; rfl)) ?_; (with_reducible refine (rivuletref01_Put.calls k a0 t141 _ A11.out).mono ?_); rintro e w37 ⟨rfl, hb⟩; refine ⟨_, rfl, ?_⟩; have n0_ := Aside0.mk (below_step (by repeat (first | (with_reducible first | exact HB.out | apply below_alloc | apply pw_below_drewN | apply below_drew1) | exact HB.out)) hb); clear HB; have HB := n0_; clear n0_; (try clear hb); (try clear hb2); (try clear hk); (try clear hi)) | (go_at_call 13; (with_reducible refine (varint_Size.calls a0 t142 _ A13.out).mono ?_); rintro e w38 ⟨rfl, hb⟩; have n0_ := Aside0.mk (below_step (by repeat (first | (with_reducible first | exact HB.out | apply below_alloc | apply pw_below_drewN | apply below_drew1) | exact HB.out)) hb); clear HB; have HB := n0_; clear n0_; (try clear hb); (try clear hb2); (try clear hk); (try clear hi)) | (go_at_call 12; (with_reducible refine (rivuletref01_Put.calls k a0 t143 _ A14.out).mono ?_); rintro e w39 ⟨rfl, hb⟩; have n0_ := Aside0.mk (below_step (by repeat (first | (with_reducible first | exact HB.out | apply below_alloc | apply pw_below_drewN | apply below_drew1) | exact HB.out)) hb); clear HB; have HB := n0_; clear n0_; (try clear hb); (try clear hb2); (try clear hk); (try clear hi)) | (go_at_call 14; (with_reducible refine (varint_Text.calls k (a1.extract 0 ((ji4) : Int).toNat) t144 _ A16.out).mono ?_); rintro e w40 ⟨rfl, hb⟩; have n0_ := Aside0.mk (below_step (by repeat (first | (with_reducible first | exact HB.out | apply below_alloc | apply pw_below_drewN | apply below_drew1) | exact HB.out)) hb); clear HB; have HB := n0_; clear n0_; (try clear hb); (try clear hb2); (try clear hk); (try clear hi)) | (go_at_call 15; (with_reducible refine (rivuletref01_Text.calls k (a1.extract 0 ((ji4) : Int).toNat) t145 _ A17.out).mono ?_); rintro e w41 ⟨rfl, hb⟩; have n0_ := Aside0.mk (below_step (by repeat (first | (with_reducible first | exact HB.out | apply below_alloc | apply pw_below_drewN | apply below_drew1) | exact HB.out)) hb); clear HB; have HB := n0_; clear n0_; (try clear hb); (try clear hb2); (try clear hk); (try clear hi)))
                go_ret
                exact ⟨by first | rfl | (simp [errW_none, errW_some] <;> rfl) | (simp only [← hji4, ← hji7]; first | rfl | (simp [errW_none, errW_some] <;> rfl)) | (simp [*, errW_none, errW_some] <;> rfl), by repeat (first | (with_reducible first | exact HB.out | apply below_alloc | apply pw_below_drewN | apply below_drew1) | exact HB.out)⟩
            · rw [if_neg c15] at H
              have c15b0 : (t142 == (t143.size : Int)) = false := beq_eq_false_iff_ne.mpr c15
              have c15b1 : (t142 != (t143.size : Int)) = true := bne_iff_ne.mpr c15
              obtain rfl := Option.some.inj H
              go_enter Try.func3, Try.ntmps3
              go_wp2_with (first | ((with_reducible refine gate_callee (f := 11) rfl ?_); refine goesL_ (some 18) rfl rfl Try.func11 (by kernel_rfl) rfl #[.int .u64 a0] rfl (by (try simp only [List.map_toArray, List.map_cons, List.map_nil]); first | done | rfl | (simp only [List.length_drop, List.length_take]; rfl)) ?_; (with_reducible refine (varint_Put.calls k a0 t140 _ A10.out).mono ?_); rintro e w42 ⟨rfl, hb⟩; refine ⟨_, rfl, ?_⟩; have n0_ := Aside0.mk (below_step (by repeat (first | (with_reducible first | exact HB.out | apply below_alloc | apply pw_below_drewN | apply below_drew1) | exact HB.out)) hb); clear HB; have HB := n0_; clear n0_; (try clear hb); (try clear hb2); (try clear hk); (try clear hi)) | ((with_reducible refine gate_callee (f := 12) rfl ?_); refine goesL_ (some 20) rfl rfl Try.func12 (by kernel_rfl) rfl #[.int .u64 a0] rfl (by (try simp only [List.map_toArray, List.map_cons, List.map_nil]); first | done | rfl | (simp only [List.length_drop, List.length_take]; rfl)) ?_; (with_reducible refine (rivuletref01_Put.calls k a0 t141 _ A11.out).mono ?_); rintro e w43 ⟨rfl, hb⟩; refine ⟨_, rfl, ?_⟩; have n0_ := Aside0.mk (below_step (by repeat (first | (with_reducible first | exact HB.out | apply below_alloc | apply pw_below_drewN | apply below_drew1) | exact HB.out)) hb); clear HB; have HB := n0_; clear n0_; (try clear hb); (try clear hb2); (try clear hk); (try clear hi)) | (go_at_call 13; (with_reducible refine (varint_Size.calls a0 t142 _ A13.out).mono ?_); rintro e w44 ⟨rfl, hb⟩; have n0_ := Aside0.mk (below_step (by repeat (first | (with_reducible first | exact HB.out | apply below_alloc | apply pw_below_drewN | apply below_drew1) | exact HB.out)) hb); clear HB; have HB := n0_; clear n0_; (try clear hb); (try clear hb2); (try clear hk); (try clear hi)) | (go_at_call 12; (with_reducible refine (rivuletref01_Put.calls k a0 t143 _ A14.out).mono ?_); rintro e w45 ⟨rfl, hb⟩; have n0_ := Aside0.mk (below_step (by repeat (first | (with_reducible first | exact HB.out | apply below_alloc | apply pw_below_drewN | apply below_drew1) | exact HB.out)) hb); clear HB; have HB := n0_; clear n0_; (try clear hb); (try clear hb2); (try clear hk); (try clear hi)))
              go_ret
              exact ⟨by first | rfl | (simp [errW_none, errW_some] <;> rfl) | (simp only [← hji4, ← hji7]; first | rfl | (simp [errW_none, errW_some] <;> rfl)) | (simp [*, errW_none, errW_some] <;> rfl), by repeat (first | (with_reducible first | exact HB.out | apply below_alloc | apply pw_below_drewN | apply below_drew1) | exact HB.out)⟩
          · rw [if_neg c12] at H
            have c12b0 : (t140.toList == t141.toList) = false := beq_eq_false_iff_ne.mpr c12
            have c12b1 : (t140.toList != t141.toList) = true := bne_iff_ne.mpr c12
            obtain rfl := Option.some.inj H
            go_enter Try.func3, Try.ntmps3
            go_wp2_with (first | ((with_reducible refine gate_callee (f := 11) rfl ?_); refine goesL_ (some 18) rfl rfl Try.func11 (by kernel_rfl) rfl #[.int .u64 a0] rfl (by (try simp only [List.map_toArray, List.map_cons, List.map_nil]); first | done | rfl | (simp only [List.length_drop, List.length_take]; rfl)) ?_; (with_reducible refine (varint_Put.calls k a0 t140 _ A10.out).mono ?_); rintro e w46 ⟨rfl, hb⟩; refine ⟨_, rfl, ?_⟩; have n0_ := Aside0.mk (below_step (by repeat (first | (with_reducible first | exact HB.out | apply below_alloc | apply pw_below_drewN | apply below_drew1) | exact HB.out)) hb); clear HB; have HB := n0_; clear n0_; (try clear hb); (try clear hb2); (try clear hk); (try clear hi)) | ((with_reducible refine gate_callee (f := 12) rfl ?_); refine goesL_ (some 20) rfl rfl Try.func12 (by kernel_rfl) rfl #[.int .u64 a0] rfl (by (try simp only [List.map_toArray, List.map_cons, List.map_nil]); first | done | rfl | (simp only [List.length_drop, List.length_take]; rfl)) ?_; (with_reducible refine (rivuletref01_Put.calls k a0 t141 _ A11.out).mono ?_); rintro e w47 ⟨rfl, hb⟩; refine ⟨_, rfl, ?_⟩; have n0_ := Aside0.mk (below_step (by repeat (first | (with_reducible first | exact HB.out | apply below_alloc | apply pw_below_drewN | apply below_drew1) | exact HB.out)) hb); clear HB; have HB := n0_; clear n0_; (try clear hb); (try clear hb2); (try clear hk); (try clear hi)))
            go_ret
            exact ⟨by first | rfl | (simp [errW_none, errW_some] <;> rfl) | (simp only [← hji4, ← hji7]; first | rfl | (simp [errW_none, errW_some] <;> rfl)) | (simp [*, errW_none, errW_some] <;> rfl), by repeat (first | (with_reducible first | exact HB.out | apply below_alloc | apply pw_below_drewN | apply below_drew1) | exact HB.out)⟩
        · rw [if_neg c9] at H
          exact absurd H (by simp)
      · rw [if_neg c8] at H
        exact absurd H (by simp)
    · rw [if_neg c6] at H
      exact absurd H (by simp)
  · rw [if_neg c5] at H
    exact absurd H (by simp)

/-- THE ONE PURE STATEMENT of rivuletlaw01_VarintPuts: yours. -/
def rivuletlaw01_VarintPuts.Pure : Prop := ∀ (a0 : Int) (a1 : ByteArray) (a2 : ByteArray), (Lit.int .u64 a0).wf = true → a1.size ≤ 140737488351232 → a2.size ≤ 140737488351232 → ∃ k, rivuletlaw01_VarintPuts.f k a0 a1 a2 = some true
theorem rivuletlaw01_VarintPuts.walk (P : rivuletlaw01_VarintPuts.Pure) (a0 : Int) (a1 : ByteArray) (a2 : ByteArray) (w : World) (w0 : (Lit.int .u64 a0).wf = true) (w1 : a1.size ≤ 140737488351232) (w2 : a2.size ≤ 140737488351232) :
    Calls Try.prog 3 #[.int .u64 a0, .string a1, .string a2] w fun e w' => e = .returned (.bool true) ∧ Below w.heap.size w w' := by
  obtain ⟨k, h⟩ := P a0 a1 a2 w0 w1 w2
  refine (rivuletlaw01_VarintPuts.calls k a0 a1 a2 true w h).mono ?_
  rintro e w' ⟨rfl, hd⟩
  exact ⟨rfl, hd⟩

end Go.Proofs.Ytjmegjdgebmfeaa.Pr
