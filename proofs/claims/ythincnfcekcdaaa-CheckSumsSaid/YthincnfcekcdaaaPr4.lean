-- Printed by this session's changed copy of the kit's printer (wip/tools/mkprint.py; some functions are given by hand). Lean checks it.
import Derived.Test.YthincnfcekcdaaaPr0
import Derived.Test.YthincnfcekcdaaaPr1
import Derived.Test.YthincnfcekcdaaaPr2
import Derived.Test.YthincnfcekcdaaaPr3
namespace Go.Proofs.Ythincnfcekcdaaa.Pr
open Go.RowKit Go.Proofs.YthincnfcekcdaaaW.PrintWords Go.Proofs.YthincnfcekcdaaaW.PrintLast Go.Proofs.YthincnfcekcdaaaW.PrintMore
attribute [local go_sem] max2_int min2_int max_two min_two max_three min_three max_four min_four   -- for this text's walks alone
set_option linter.unusedVariables false
set_option linter.unusedSimpArgs false

/-! ### rivuletlaw02_CheckSums: function 3 -/
def rivuletlaw02_CheckSums.f (k : Nat) (a0 : ByteArray) (a1 : Int) : Option (Bool) := if 0 ≤ (mn (a0.size : Int) 500) then (if (mn (a0.size : Int) 500) ≤ (a0.size : Int) then ((check_Sum.f (a0.extract 0 ((mn (a0.size : Int) 500) : Int).toNat)).bind fun t190 => ((rivuletref02_Sum.f k (a0.extract 0 ((mn (a0.size : Int) 500) : Int).toNat)).bind fun t191 => (if t190 = t191 then ((check_Add.f a1 (a0.extract 0 ((mn (a0.size : Int) 500) : Int).toNat)).bind fun t192 => ((rivuletref02_Add.f k a1 (a0.extract 0 ((mn (a0.size : Int) 500) : Int).toNat)).bind fun t193 => (if t192 = t193 then ((check_Seal.f k (a0.extract 0 ((mn (a0.size : Int) 500) : Int).toNat)).bind fun t194 => ((rivuletref02_Seal.f k (a0.extract 0 ((mn (a0.size : Int) 500) : Int).toNat)).bind fun t195 => (if t194.toList = t195.toList then ((rivuletlaw02_fixed.f k).bind fun t196 => (some t196)) else (some false)))) else (some false)))) else (some false)))) else (none)) else (none)
theorem rivuletlaw02_CheckSums.mono : ∀ a0 a1 k, LeO (rivuletlaw02_CheckSums.f k a0 a1) (rivuletlaw02_CheckSums.f (k + 1) a0 a1) := by
  intro a0 a1 k
  unfold rivuletlaw02_CheckSums.f
  repeat' first
      | (with_reducible exact check_Seal.mono _ _)
      | (with_reducible exact rivuletlaw02_fixed.mono _)
      | (with_reducible exact rivuletref02_Add.mono _ _ _)
      | (with_reducible exact rivuletref02_Seal.mono _ _)
      | (with_reducible exact rivuletref02_Sum.mono _ _)
      | (with_reducible exact LeO.refl _)
      | (with_reducible exact LeO.none _)
      | (with_reducible refine LeO.ite ?_ ?_)
      | (with_reducible refine LeO.bind ?_ (fun _ => ?_))
      | exact check_Seal.mono _ _
      | exact rivuletlaw02_fixed.mono _
      | exact rivuletref02_Add.mono _ _ _
      | exact rivuletref02_Seal.mono _ _
      | exact rivuletref02_Sum.mono _ _
      | exact LeO.none _
      | refine LeO.ite ?_ ?_
      | refine LeO.bind ?_ (fun _ => ?_)
set_option maxHeartbeats 8000000 in
set_option maxRecDepth 100000 in
theorem rivuletlaw02_CheckSums.calls (k : Nat) (a0 : ByteArray) (a1 : Int) (r : Bool) (w : World) (h : rivuletlaw02_CheckSums.f k a0 a1 = some r) :
    Calls Try.prog 3 #[.string a0, .int .u32 a1] w fun e w' => e = .returned (.bool r) ∧ Below w.heap.size w w' := by
  have HB := Aside0.mk (Below.refl w.heap.size w)
  have H : (if 0 ≤ (mn (a0.size : Int) 500) then (if (mn (a0.size : Int) 500) ≤ (a0.size : Int) then ((check_Sum.f (a0.extract 0 ((mn (a0.size : Int) 500) : Int).toNat)).bind fun t190 => ((rivuletref02_Sum.f k (a0.extract 0 ((mn (a0.size : Int) 500) : Int).toNat)).bind fun t191 => (if t190 = t191 then ((check_Add.f a1 (a0.extract 0 ((mn (a0.size : Int) 500) : Int).toNat)).bind fun t192 => ((rivuletref02_Add.f k a1 (a0.extract 0 ((mn (a0.size : Int) 500) : Int).toNat)).bind fun t193 => (if t192 = t193 then ((check_Seal.f k (a0.extract 0 ((mn (a0.size : Int) 500) : Int).toNat)).bind fun t194 => ((rivuletref02_Seal.f k (a0.extract 0 ((mn (a0.size : Int) 500) : Int).toNat)).bind fun t195 => (if t194.toList = t195.toList then ((rivuletlaw02_fixed.f k).bind fun t196 => (some t196)) else (some false)))) else (some false)))) else (some false)))) else (none)) else (none)) = some r := h
  clear h
  obtain ⟨ji3, hji3⟩ : ∃ j_ : Int, (mn (a0.size : Int) 500) = j_ := ⟨_, rfl⟩
  replace H : (if 0 ≤ (ji3) then (if (ji3) ≤ (a0.size : Int) then ((check_Sum.f (a0.extract 0 ((ji3) : Int).toNat)).bind fun t190 => ((rivuletref02_Sum.f k (a0.extract 0 ((ji3) : Int).toNat)).bind fun t191 => (if t190 = t191 then ((check_Add.f a1 (a0.extract 0 ((ji3) : Int).toNat)).bind fun t192 => ((rivuletref02_Add.f k a1 (a0.extract 0 ((ji3) : Int).toNat)).bind fun t193 => (if t192 = t193 then ((check_Seal.f k (a0.extract 0 ((ji3) : Int).toNat)).bind fun t194 => ((rivuletref02_Seal.f k (a0.extract 0 ((ji3) : Int).toNat)).bind fun t195 => (if t194.toList = t195.toList then ((rivuletlaw02_fixed.f k).bind fun t196 => (some t196)) else (some false)))) else (some false)))) else (some false)))) else (none)) else (none)) = some r := by first | (rw [hji3] at H; exact H) | (simp only [hji3] at H ⊢; exact H)
  (try (have hji3h : ji3 ≤ 500 := by (rw [← hji3]; unfold mn; (repeat' split) <;> omega)))
  (try (have hji3g : ji3 ≤ 64 := by omega))
  (try (have hji3l : 0 ≤ ji3 := by (rw [← hji3]; unfold mn; (repeat' split) <;> omega)))
  (try (have hji3m : 0 ≤ ji3 := by omega))
  have hji3_ : (if 500 < (a0.size : Int) then 500 else (a0.size : Int)) = ji3 := hji3
  obtain ⟨Sji3, hSji3⟩ : ∃ S_ : ByteArray, a0.extract 0 (ji3 : Int).toNat = S_ := ⟨_, rfl⟩
  simp only [hSji3] at H
  by_cases c4 : 0 ≤ (ji3)
  · rw [if_pos c4] at H
    have c4b0 := eq_true c4
    have c4b1 : decide (0 ≤ (ji3)) = true := decide_eq_true c4
    clear c4
    by_cases c5 : (ji3) ≤ (a0.size : Int)
    · rw [if_pos c5] at H
      have c5b0 := eq_true c5
      have c5b1 : decide ((ji3) ≤ (a0.size : Int)) = true := decide_eq_true c5
      clear c5
      replace H := Option.bind_eq_some_iff.mp H
      obtain ⟨t190, A60, H⟩ := H
      replace H : ((rivuletref02_Sum.f k Sji3).bind fun t191 => (if t190 = t191 then ((check_Add.f a1 Sji3).bind fun t192 => ((rivuletref02_Add.f k a1 Sji3).bind fun t193 => (if t192 = t193 then ((check_Seal.f k Sji3).bind fun t194 => ((rivuletref02_Seal.f k Sji3).bind fun t195 => (if t194.toList = t195.toList then ((rivuletlaw02_fixed.f k).bind fun t196 => (some t196)) else (some false)))) else (some false)))) else (some false))) = some r := H
      have A6 := Aside0.mk A60
      clear A60
      replace H := Option.bind_eq_some_iff.mp H
      obtain ⟨t191, A70, H⟩ := H
      replace H : (if t190 = t191 then ((check_Add.f a1 Sji3).bind fun t192 => ((rivuletref02_Add.f k a1 Sji3).bind fun t193 => (if t192 = t193 then ((check_Seal.f k Sji3).bind fun t194 => ((rivuletref02_Seal.f k Sji3).bind fun t195 => (if t194.toList = t195.toList then ((rivuletlaw02_fixed.f k).bind fun t196 => (some t196)) else (some false)))) else (some false)))) else (some false)) = some r := H
      have A7 := Aside0.mk A70
      clear A70
      by_cases c8 : t190 = t191
      · rw [if_pos c8] at H
        have c8b0 : (t190 == t191) = true := beq_iff_eq.mpr c8
        have c8b1 : (t190 != t191) = false := bne_eq_false_iff_eq.mpr c8
        clear c8
        replace H := Option.bind_eq_some_iff.mp H
        obtain ⟨t192, A90, H⟩ := H
        replace H : ((rivuletref02_Add.f k a1 Sji3).bind fun t193 => (if t192 = t193 then ((check_Seal.f k Sji3).bind fun t194 => ((rivuletref02_Seal.f k Sji3).bind fun t195 => (if t194.toList = t195.toList then ((rivuletlaw02_fixed.f k).bind fun t196 => (some t196)) else (some false)))) else (some false))) = some r := H
        have A9 := Aside0.mk A90
        clear A90
        replace H := Option.bind_eq_some_iff.mp H
        obtain ⟨t193, A100, H⟩ := H
        replace H : (if t192 = t193 then ((check_Seal.f k Sji3).bind fun t194 => ((rivuletref02_Seal.f k Sji3).bind fun t195 => (if t194.toList = t195.toList then ((rivuletlaw02_fixed.f k).bind fun t196 => (some t196)) else (some false)))) else (some false)) = some r := H
        have A10 := Aside0.mk A100
        clear A100
        by_cases c11 : t192 = t193
        · rw [if_pos c11] at H
          have c11b0 : (t192 == t193) = true := beq_iff_eq.mpr c11
          have c11b1 : (t192 != t193) = false := bne_eq_false_iff_eq.mpr c11
          clear c11
          replace H := Option.bind_eq_some_iff.mp H
          obtain ⟨t194, A120, H⟩ := H
          replace H : ((rivuletref02_Seal.f k Sji3).bind fun t195 => (if t194.toList = t195.toList then ((rivuletlaw02_fixed.f k).bind fun t196 => (some t196)) else (some false))) = some r := H
          have A12 := Aside0.mk A120
          clear A120
          replace H := Option.bind_eq_some_iff.mp H
          obtain ⟨t195, A130, H⟩ := H
          replace H : (if t194.toList = t195.toList then ((rivuletlaw02_fixed.f k).bind fun t196 => (some t196)) else (some false)) = some r := H
          have A13 := Aside0.mk A130
          clear A130
          by_cases c14 : t194.toList = t195.toList
          · rw [if_pos c14] at H
            have c14b0 : (t194.toList == t195.toList) = true := beq_iff_eq.mpr c14
            have c14b1 : (t194.toList != t195.toList) = false := bne_eq_false_iff_eq.mpr c14
            clear c14
            replace H := Option.bind_eq_some_iff.mp H
            obtain ⟨t196, A150, H⟩ := H
            replace H : (some t196) = some r := H
            have A15 := Aside0.mk A150
            clear A150
            obtain rfl := Option.some.inj H
            go_enter Try.func3, Try.ntmps3
            go_wp2_with (first | ((with_reducible refine gate_callee (f := 11) rfl ?_); refine goesL_ (some 11) rfl rfl Try.func11 (by kernel_rfl) rfl #[.string Sji3] rfl (by (try simp only [List.map_toArray, List.map_cons, List.map_nil]); first | done | (simp only [hji3]; rfl) | rfl | (simp only [List.length_drop, List.length_take]; rfl)) ?_; (with_reducible refine (check_Sum.calls Sji3 t190 _ A6.out).mono ?_); rintro e w16 ⟨rfl, hb⟩; refine ⟨_, rfl, ?_⟩; have n0_ := Aside0.mk (below_step (by repeat (first | (with_reducible first | exact HB.out | apply below_alloc | apply pw_below_drewN | apply below_drew1) | exact HB.out)) hb); clear HB; have HB := n0_; clear n0_; (try clear hb); (try clear hb2); (try clear hk); (try clear hi)) | ((with_reducible refine gate_callee (f := 12) rfl ?_); refine goesL_ (some 13) rfl rfl Try.func12 (by kernel_rfl) rfl #[.string Sji3] rfl (by (try simp only [List.map_toArray, List.map_cons, List.map_nil]); first | done | (simp only [hji3]; rfl) | rfl | (simp only [List.length_drop, List.length_take]; rfl)) ?_; (with_reducible refine (rivuletref02_Sum.calls k Sji3 t191 _ A7.out).mono ?_); rintro e w' ⟨rfl, ⟨nd, rfl⟩⟩; refine ⟨_, rfl, ?_⟩) | (go_at_call 13; (with_reducible refine (check_Add.calls a1 Sji3 t192 _ A9.out).mono ?_); rintro e w17 ⟨rfl, hb⟩; have n0_ := Aside0.mk (below_step (by repeat (first | (with_reducible first | exact HB.out | apply below_alloc | apply pw_below_drewN | apply below_drew1) | exact HB.out)) hb); clear HB; have HB := n0_; clear n0_; (try clear hb); (try clear hb2); (try clear hk); (try clear hi)) | (go_at_call 14; (with_reducible refine (rivuletref02_Add.calls k a1 Sji3 t193 _ A10.out).mono ?_); rintro e w' ⟨rfl, ⟨nd, rfl⟩⟩) | (go_at_call 15; (with_reducible refine (check_Seal.calls k Sji3 t194 _ A12.out).mono ?_); rintro e w18 ⟨rfl, hb⟩; have n0_ := Aside0.mk (below_step (by repeat (first | (with_reducible first | exact HB.out | apply below_alloc | apply pw_below_drewN | apply below_drew1) | exact HB.out)) hb); clear HB; have HB := n0_; clear n0_; (try clear hb); (try clear hb2); (try clear hk); (try clear hi)) | (go_at_call 16; (with_reducible refine (rivuletref02_Seal.calls k Sji3 t195 _ A13.out).mono ?_); rintro e w19 ⟨rfl, hb⟩; have n0_ := Aside0.mk (below_step (by repeat (first | (with_reducible first | exact HB.out | apply below_alloc | apply pw_below_drewN | apply below_drew1) | exact HB.out)) hb); clear HB; have HB := n0_; clear n0_; (try clear hb); (try clear hb2); (try clear hk); (try clear hi)) | (go_at_call 17; (with_reducible refine (rivuletlaw02_fixed.calls k  t196 _ A15.out).mono ?_); rintro e w20 ⟨rfl, hb⟩; have n0_ := Aside0.mk (below_step (by repeat (first | (with_reducible first | exact HB.out | apply below_alloc | apply pw_below_drewN | apply below_drew1) | exact HB.out)) hb); clear HB; have HB := n0_; clear n0_; (try clear hb); (try clear hb2); (try clear hk); (try clear hi)))
            go_ret
            exact ⟨by first | rfl | (simp [errW_none, errW_some] <;> rfl) | (simp only [← hji3]; first | rfl | (simp [errW_none, errW_some] <;> rfl)) | (simp [*, errW_none, errW_some] <;> rfl), by repeat (first | (with_reducible first | exact HB.out | apply below_alloc | apply pw_below_drewN | apply below_drew1) | exact HB.out)⟩
          · rw [if_neg c14] at H
            have c14b0 : (t194.toList == t195.toList) = false := beq_eq_false_iff_ne.mpr c14
            have c14b1 : (t194.toList != t195.toList) = true := bne_iff_ne.mpr c14
            obtain rfl := Option.some.inj H
            go_enter Try.func3, Try.ntmps3
            go_wp2_with (first | ((with_reducible refine gate_callee (f := 11) rfl ?_); refine goesL_ (some 11) rfl rfl Try.func11 (by kernel_rfl) rfl #[.string Sji3] rfl (by (try simp only [List.map_toArray, List.map_cons, List.map_nil]); first | done | (simp only [hji3]; rfl) | rfl | (simp only [List.length_drop, List.length_take]; rfl)) ?_; (with_reducible refine (check_Sum.calls Sji3 t190 _ A6.out).mono ?_); rintro e w21 ⟨rfl, hb⟩; refine ⟨_, rfl, ?_⟩; have n0_ := Aside0.mk (below_step (by repeat (first | (with_reducible first | exact HB.out | apply below_alloc | apply pw_below_drewN | apply below_drew1) | exact HB.out)) hb); clear HB; have HB := n0_; clear n0_; (try clear hb); (try clear hb2); (try clear hk); (try clear hi)) | ((with_reducible refine gate_callee (f := 12) rfl ?_); refine goesL_ (some 13) rfl rfl Try.func12 (by kernel_rfl) rfl #[.string Sji3] rfl (by (try simp only [List.map_toArray, List.map_cons, List.map_nil]); first | done | (simp only [hji3]; rfl) | rfl | (simp only [List.length_drop, List.length_take]; rfl)) ?_; (with_reducible refine (rivuletref02_Sum.calls k Sji3 t191 _ A7.out).mono ?_); rintro e w' ⟨rfl, ⟨nd, rfl⟩⟩; refine ⟨_, rfl, ?_⟩) | (go_at_call 13; (with_reducible refine (check_Add.calls a1 Sji3 t192 _ A9.out).mono ?_); rintro e w22 ⟨rfl, hb⟩; have n0_ := Aside0.mk (below_step (by repeat (first | (with_reducible first | exact HB.out | apply below_alloc | apply pw_below_drewN | apply below_drew1) | exact HB.out)) hb); clear HB; have HB := n0_; clear n0_; (try clear hb); (try clear hb2); (try clear hk); (try clear hi)) | (go_at_call 14; (with_reducible refine (rivuletref02_Add.calls k a1 Sji3 t193 _ A10.out).mono ?_); rintro e w' ⟨rfl, ⟨nd, rfl⟩⟩) | (go_at_call 15; (with_reducible refine (check_Seal.calls k Sji3 t194 _ A12.out).mono ?_); rintro e w23 ⟨rfl, hb⟩; have n0_ := Aside0.mk (below_step (by repeat (first | (with_reducible first | exact HB.out | apply below_alloc | apply pw_below_drewN | apply below_drew1) | exact HB.out)) hb); clear HB; have HB := n0_; clear n0_; (try clear hb); (try clear hb2); (try clear hk); (try clear hi)) | (go_at_call 16; (with_reducible refine (rivuletref02_Seal.calls k Sji3 t195 _ A13.out).mono ?_); rintro e w24 ⟨rfl, hb⟩; have n0_ := Aside0.mk (below_step (by repeat (first | (with_reducible first | exact HB.out | apply below_alloc | apply pw_below_drewN | apply below_drew1) | exact HB.out)) hb); clear HB; have HB := n0_; clear n0_; (try clear hb); (try clear hb2); (try clear hk); (try clear hi)))
            go_ret
            exact ⟨by first | rfl | (simp [errW_none, errW_some] <;> rfl) | (simp only [← hji3]; first | rfl | (simp [errW_none, errW_some] <;> rfl)) | (simp [*, errW_none, errW_some] <;> rfl), by repeat (first | (with_reducible first | exact HB.out | apply below_alloc | apply pw_below_drewN | apply below_drew1) | exact HB.out)⟩
        · rw [if_neg c11] at H
          have c11b0 : (t192 == t193) = false := beq_eq_false_iff_ne.mpr c11
          have c11b1 : (t192 != t193) = true := bne_iff_ne.mpr c11
          obtain rfl := Option.some.inj H
          go_enter Try.func3, Try.ntmps3
          go_wp2_with (first | ((with_reducible refine gate_callee (f := 11) rfl ?_); refine goesL_ (some 11) rfl rfl Try.func11 (by kernel_rfl) rfl #[.string Sji3] rfl (by (try simp only [List.map_toArray, List.map_cons, List.map_nil]); first | done | (simp only [hji3]; rfl) | rfl | (simp only [List.length_drop, List.length_take]; rfl)) ?_; (with_reducible refine (check_Sum.calls Sji3 t190 _ A6.out).mono ?_); rintro e w25 ⟨rfl, hb⟩; refine ⟨_, rfl, ?_⟩; have n0_ := Aside0.mk (below_step (by repeat (first | (with_reducible first | exact HB.out | apply below_alloc | apply pw_below_drewN | apply below_drew1) | exact HB.out)) hb); clear HB; have HB := n0_; clear n0_; (try clear hb); (try clear hb2); (try clear hk); (try clear hi)) | ((with_reducible refine gate_callee (f := 12) rfl ?_); refine goesL_ (some 13) rfl rfl Try.func12 (by kernel_rfl) rfl #[.string Sji3] rfl (by (try simp only [List.map_toArray, List.map_cons, List.map_nil]); first | done | (simp only [hji3]; rfl) | rfl | (simp only [List.length_drop, List.length_take]; rfl)) ?_; (with_reducible refine (rivuletref02_Sum.calls k Sji3 t191 _ A7.out).mono ?_); rintro e w' ⟨rfl, ⟨nd, rfl⟩⟩; refine ⟨_, rfl, ?_⟩) | (go_at_call 13; (with_reducible refine (check_Add.calls a1 Sji3 t192 _ A9.out).mono ?_); rintro e w26 ⟨rfl, hb⟩; have n0_ := Aside0.mk (below_step (by repeat (first | (with_reducible first | exact HB.out | apply below_alloc | apply pw_below_drewN | apply below_drew1) | exact HB.out)) hb); clear HB; have HB := n0_; clear n0_; (try clear hb); (try clear hb2); (try clear hk); (try clear hi)) | (go_at_call 14; (with_reducible refine (rivuletref02_Add.calls k a1 Sji3 t193 _ A10.out).mono ?_); rintro e w' ⟨rfl, ⟨nd, rfl⟩⟩))
          go_ret
          exact ⟨by first | rfl | (simp [errW_none, errW_some] <;> rfl) | (simp only [← hji3]; first | rfl | (simp [errW_none, errW_some] <;> rfl)) | (simp [*, errW_none, errW_some] <;> rfl), by repeat (first | (with_reducible first | exact HB.out | apply below_alloc | apply pw_below_drewN | apply below_drew1) | exact HB.out)⟩
      · rw [if_neg c8] at H
        have c8b0 : (t190 == t191) = false := beq_eq_false_iff_ne.mpr c8
        have c8b1 : (t190 != t191) = true := bne_iff_ne.mpr c8
        obtain rfl := Option.some.inj H
        go_enter Try.func3, Try.ntmps3
        go_wp2_with (first | ((with_reducible refine gate_callee (f := 11) rfl ?_); refine goesL_ (some 11) rfl rfl Try.func11 (by kernel_rfl) rfl #[.string Sji3] rfl (by (try simp only [List.map_toArray, List.map_cons, List.map_nil]); first | done | (simp only [hji3]; rfl) | rfl | (simp only [List.length_drop, List.length_take]; rfl)) ?_; (with_reducible refine (check_Sum.calls Sji3 t190 _ A6.out).mono ?_); rintro e w27 ⟨rfl, hb⟩; refine ⟨_, rfl, ?_⟩; have n0_ := Aside0.mk (below_step (by repeat (first | (with_reducible first | exact HB.out | apply below_alloc | apply pw_below_drewN | apply below_drew1) | exact HB.out)) hb); clear HB; have HB := n0_; clear n0_; (try clear hb); (try clear hb2); (try clear hk); (try clear hi)) | ((with_reducible refine gate_callee (f := 12) rfl ?_); refine goesL_ (some 13) rfl rfl Try.func12 (by kernel_rfl) rfl #[.string Sji3] rfl (by (try simp only [List.map_toArray, List.map_cons, List.map_nil]); first | done | (simp only [hji3]; rfl) | rfl | (simp only [List.length_drop, List.length_take]; rfl)) ?_; (with_reducible refine (rivuletref02_Sum.calls k Sji3 t191 _ A7.out).mono ?_); rintro e w' ⟨rfl, ⟨nd, rfl⟩⟩; refine ⟨_, rfl, ?_⟩))
        go_ret
        exact ⟨by first | rfl | (simp [errW_none, errW_some] <;> rfl) | (simp only [← hji3]; first | rfl | (simp [errW_none, errW_some] <;> rfl)) | (simp [*, errW_none, errW_some] <;> rfl), by repeat (first | (with_reducible first | exact HB.out | apply below_alloc | apply pw_below_drewN | apply below_drew1) | exact HB.out)⟩
    · rw [if_neg c5] at H
      exact absurd H (by simp)
  · rw [if_neg c4] at H
    exact absurd H (by simp)

/-- THE ONE PURE STATEMENT of rivuletlaw02_CheckSums: yours. -/
def rivuletlaw02_CheckSums.Pure : Prop := ∀ (a0 : ByteArray) (a1 : Int), a0.size ≤ 140737488351232 → (Lit.int .u32 a1).wf = true → ∃ k, rivuletlaw02_CheckSums.f k a0 a1 = some true
theorem rivuletlaw02_CheckSums.walk (P : rivuletlaw02_CheckSums.Pure) (a0 : ByteArray) (a1 : Int) (w : World) (w0 : a0.size ≤ 140737488351232) (w1 : (Lit.int .u32 a1).wf = true) :
    Calls Try.prog 3 #[.string a0, .int .u32 a1] w fun e w' => e = .returned (.bool true) ∧ Below w.heap.size w w' := by
  obtain ⟨k, h⟩ := P a0 a1 w0 w1
  refine (rivuletlaw02_CheckSums.calls k a0 a1 true w h).mono ?_
  rintro e w' ⟨rfl, hd⟩
  exact ⟨rfl, hd⟩

end Go.Proofs.Ythincnfcekcdaaa.Pr
