-- Printed by this session's changed copy of the kit's printer (wip/tools/mkprint.py; some functions are given by hand). Lean checks it.
import Derived.Test.YthincnfcekcdaaaPr0
import Derived.Test.YthincnfcekcdaaaPr1
import Derived.Test.YthincnfcekcdaaaPr3
namespace Go.Proofs.Ythincnfcekcdaaa.Pr
open Go.RowKit Go.Proofs.YthincnfcekcdaaaW.PrintWords Go.Proofs.YthincnfcekcdaaaW.PrintLast Go.Proofs.YthincnfcekcdaaaW.PrintMore
attribute [local go_sem] max2_int min2_int max_two min_two max_three min_three max_four min_four   -- for this text's walks alone
set_option linter.unusedVariables false
set_option linter.unusedSimpArgs false

/-! ### rivuletlaw02_CheckJoins: function 6 -/
def rivuletlaw02_CheckJoins.f (k : Nat) (a0 : ByteArray) (a1 : ByteArray) : Option (Bool) := if 0 ≤ (mn (a0.size : Int) 300) then (if (mn (a0.size : Int) 300) ≤ (a0.size : Int) then (if 0 ≤ (mn (a1.size : Int) 300) then (if (mn (a1.size : Int) 300) ≤ (a1.size : Int) then ((check_Sum.f (a0.extract 0 ((mn (a0.size : Int) 300) : Int).toNat)).bind fun t242 => ((check_Add.f t242 (a1.extract 0 ((mn (a1.size : Int) 300) : Int).toNat)).bind fun t243 => (if (a0.extract 0 ((mn (a0.size : Int) 300) : Int).toNat).size + (a1.extract 0 ((mn (a1.size : Int) 300) : Int).toNat).size ≤ 9223372036854775807 then ((check_Sum.f ((a0.extract 0 ((mn (a0.size : Int) 300) : Int).toNat) ++ (a1.extract 0 ((mn (a1.size : Int) 300) : Int).toNat))).bind fun t244 => (if t243 = t244 then ((check_Sum.f (a0.extract 0 ((mn (a0.size : Int) 300) : Int).toNat)).bind fun t245 => ((check_Add.f t245 (⟨#[]⟩ : ByteArray)).bind fun t246 => (if t246 = t245 then ((rivuletlaw02_fixed.f k).bind fun t247 => (some t247)) else (some false)))) else (some false))) else (none)))) else (none)) else (none)) else (none)) else (none)
theorem rivuletlaw02_CheckJoins.mono : ∀ a0 a1 k, LeO (rivuletlaw02_CheckJoins.f k a0 a1) (rivuletlaw02_CheckJoins.f (k + 1) a0 a1) := by
  intro a0 a1 k
  unfold rivuletlaw02_CheckJoins.f
  repeat' first
      | (with_reducible exact rivuletlaw02_fixed.mono _)
      | (with_reducible exact LeO.refl _)
      | (with_reducible exact LeO.none _)
      | (with_reducible refine LeO.ite ?_ ?_)
      | (with_reducible refine LeO.bind ?_ (fun _ => ?_))
      | exact rivuletlaw02_fixed.mono _
      | exact LeO.none _
      | refine LeO.ite ?_ ?_
      | refine LeO.bind ?_ (fun _ => ?_)
set_option maxHeartbeats 8000000 in
set_option maxRecDepth 100000 in
theorem rivuletlaw02_CheckJoins.calls (k : Nat) (a0 : ByteArray) (a1 : ByteArray) (r : Bool) (w : World) (h : rivuletlaw02_CheckJoins.f k a0 a1 = some r) :
    Calls Try.prog 6 #[.string a0, .string a1] w fun e w' => e = .returned (.bool r) ∧ Below w.heap.size w w' := by
  have HB := Aside0.mk (Below.refl w.heap.size w)
  have H : (if 0 ≤ (mn (a0.size : Int) 300) then (if (mn (a0.size : Int) 300) ≤ (a0.size : Int) then (if 0 ≤ (mn (a1.size : Int) 300) then (if (mn (a1.size : Int) 300) ≤ (a1.size : Int) then ((check_Sum.f (a0.extract 0 ((mn (a0.size : Int) 300) : Int).toNat)).bind fun t242 => ((check_Add.f t242 (a1.extract 0 ((mn (a1.size : Int) 300) : Int).toNat)).bind fun t243 => (if (a0.extract 0 ((mn (a0.size : Int) 300) : Int).toNat).size + (a1.extract 0 ((mn (a1.size : Int) 300) : Int).toNat).size ≤ 9223372036854775807 then ((check_Sum.f ((a0.extract 0 ((mn (a0.size : Int) 300) : Int).toNat) ++ (a1.extract 0 ((mn (a1.size : Int) 300) : Int).toNat))).bind fun t244 => (if t243 = t244 then ((check_Sum.f (a0.extract 0 ((mn (a0.size : Int) 300) : Int).toNat)).bind fun t245 => ((check_Add.f t245 (⟨#[]⟩ : ByteArray)).bind fun t246 => (if t246 = t245 then ((rivuletlaw02_fixed.f k).bind fun t247 => (some t247)) else (some false)))) else (some false))) else (none)))) else (none)) else (none)) else (none)) else (none)) = some r := h
  clear h
  obtain ⟨ji3, hji3⟩ : ∃ j_ : Int, (mn (a0.size : Int) 300) = j_ := ⟨_, rfl⟩
  replace H : (if 0 ≤ (ji3) then (if (ji3) ≤ (a0.size : Int) then (if 0 ≤ (mn (a1.size : Int) 300) then (if (mn (a1.size : Int) 300) ≤ (a1.size : Int) then ((check_Sum.f (a0.extract 0 ((ji3) : Int).toNat)).bind fun t242 => ((check_Add.f t242 (a1.extract 0 ((mn (a1.size : Int) 300) : Int).toNat)).bind fun t243 => (if (a0.extract 0 ((ji3) : Int).toNat).size + (a1.extract 0 ((mn (a1.size : Int) 300) : Int).toNat).size ≤ 9223372036854775807 then ((check_Sum.f ((a0.extract 0 ((ji3) : Int).toNat) ++ (a1.extract 0 ((mn (a1.size : Int) 300) : Int).toNat))).bind fun t244 => (if t243 = t244 then ((check_Sum.f (a0.extract 0 ((ji3) : Int).toNat)).bind fun t245 => ((check_Add.f t245 (⟨#[]⟩ : ByteArray)).bind fun t246 => (if t246 = t245 then ((rivuletlaw02_fixed.f k).bind fun t247 => (some t247)) else (some false)))) else (some false))) else (none)))) else (none)) else (none)) else (none)) else (none)) = some r := by first | (rw [hji3] at H; exact H) | (simp only [hji3] at H ⊢; exact H)
  (try (have hji3h : ji3 ≤ 300 := by (rw [← hji3]; unfold mn; (repeat' split) <;> omega)))
  (try (have hji3g : ji3 ≤ 64 := by omega))
  (try (have hji3l : 0 ≤ ji3 := by (rw [← hji3]; unfold mn; (repeat' split) <;> omega)))
  (try (have hji3m : 0 ≤ ji3 := by omega))
  have hji3_ : (if 300 < (a0.size : Int) then 300 else (a0.size : Int)) = ji3 := hji3
  obtain ⟨Sji3, hSji3⟩ : ∃ S_ : ByteArray, a0.extract 0 (ji3 : Int).toNat = S_ := ⟨_, rfl⟩
  simp only [hSji3] at H
  by_cases c4 : 0 ≤ (ji3)
  · rw [if_pos c4] at H
    have c4b0 := eq_true c4
    have c4b1 : decide (0 ≤ (ji3)) = true := decide_eq_true c4
    clear c4
    by_cases c5 : (ji3) ≤ (a0.size : Int)
    · rw [if_pos c5] at H
      have c5b0 := eq_true c5
      have c5b1 : decide ((ji3) ≤ (a0.size : Int)) = true := decide_eq_true c5
      clear c5
      obtain ⟨ji6, hji6⟩ : ∃ j_ : Int, (mn (a1.size : Int) 300) = j_ := ⟨_, rfl⟩
      replace H : (if 0 ≤ (ji6) then (if (ji6) ≤ (a1.size : Int) then ((check_Sum.f Sji3).bind fun t242 => ((check_Add.f t242 (a1.extract 0 ((ji6) : Int).toNat)).bind fun t243 => (if Sji3.size + (a1.extract 0 ((ji6) : Int).toNat).size ≤ 9223372036854775807 then ((check_Sum.f (Sji3 ++ (a1.extract 0 ((ji6) : Int).toNat))).bind fun t244 => (if t243 = t244 then ((check_Sum.f Sji3).bind fun t245 => ((check_Add.f t245 (⟨#[]⟩ : ByteArray)).bind fun t246 => (if t246 = t245 then ((rivuletlaw02_fixed.f k).bind fun t247 => (some t247)) else (some false)))) else (some false))) else (none)))) else (none)) else (none)) = some r := by first | (rw [hji6] at H; exact H) | (simp only [hji6] at H ⊢; exact H)
      (try (have hji6h : ji6 ≤ 300 := by (rw [← hji6]; unfold mn; (repeat' split) <;> omega)))
      (try (have hji6g : ji6 ≤ 64 := by omega))
      (try (have hji6l : 0 ≤ ji6 := by (rw [← hji6]; unfold mn; (repeat' split) <;> omega)))
      (try (have hji6m : 0 ≤ ji6 := by omega))
      have hji6_ : (if 300 < (a1.size : Int) then 300 else (a1.size : Int)) = ji6 := hji6
      obtain ⟨Sji6, hSji6⟩ : ∃ S_ : ByteArray, a1.extract 0 (ji6 : Int).toNat = S_ := ⟨_, rfl⟩
      simp only [hSji6] at H
      by_cases c7 : 0 ≤ (ji6)
      · rw [if_pos c7] at H
        have c7b0 := eq_true c7
        have c7b1 : decide (0 ≤ (ji6)) = true := decide_eq_true c7
        clear c7
        by_cases c8 : (ji6) ≤ (a1.size : Int)
        · rw [if_pos c8] at H
          have c8b0 := eq_true c8
          have c8b1 : decide ((ji6) ≤ (a1.size : Int)) = true := decide_eq_true c8
          clear c8
          replace H := Option.bind_eq_some_iff.mp H
          obtain ⟨t242, A90, H⟩ := H
          replace H : ((check_Add.f t242 Sji6).bind fun t243 => (if Sji3.size + Sji6.size ≤ 9223372036854775807 then ((check_Sum.f (Sji3 ++ Sji6)).bind fun t244 => (if t243 = t244 then ((check_Sum.f Sji3).bind fun t245 => ((check_Add.f t245 (⟨#[]⟩ : ByteArray)).bind fun t246 => (if t246 = t245 then ((rivuletlaw02_fixed.f k).bind fun t247 => (some t247)) else (some false)))) else (some false))) else (none))) = some r := H
          have A9 := Aside0.mk A90
          clear A90
          replace H := Option.bind_eq_some_iff.mp H
          obtain ⟨t243, A100, H⟩ := H
          replace H : (if Sji3.size + Sji6.size ≤ 9223372036854775807 then ((check_Sum.f (Sji3 ++ Sji6)).bind fun t244 => (if t243 = t244 then ((check_Sum.f Sji3).bind fun t245 => ((check_Add.f t245 (⟨#[]⟩ : ByteArray)).bind fun t246 => (if t246 = t245 then ((rivuletlaw02_fixed.f k).bind fun t247 => (some t247)) else (some false)))) else (some false))) else (none)) = some r := H
          have A10 := Aside0.mk A100
          clear A100
          by_cases c11 : Sji3.size + Sji6.size ≤ 9223372036854775807
          · rw [if_pos c11] at H
            have c11b0 := eq_true c11
            have c11b1 : decide (Sji3.size + Sji6.size ≤ 9223372036854775807) = true := decide_eq_true c11
            try have c11b2 : (9223372036854775807 < Sji3.size + Sji6.size) = False := eq_false (Nat.not_lt.2 c11)
            replace H := Option.bind_eq_some_iff.mp H
            obtain ⟨t244, A120, H⟩ := H
            replace H : (if t243 = t244 then ((check_Sum.f Sji3).bind fun t245 => ((check_Add.f t245 (⟨#[]⟩ : ByteArray)).bind fun t246 => (if t246 = t245 then ((rivuletlaw02_fixed.f k).bind fun t247 => (some t247)) else (some false)))) else (some false)) = some r := H
            have A12 := Aside0.mk A120
            clear A120
            by_cases c13 : t243 = t244
            · rw [if_pos c13] at H
              have c13b0 : (t243 == t244) = true := beq_iff_eq.mpr c13
              have c13b1 : (t243 != t244) = false := bne_eq_false_iff_eq.mpr c13
              clear c13
              replace H := Option.bind_eq_some_iff.mp H
              obtain ⟨t245, A140, H⟩ := H
              replace H : ((check_Add.f t245 (⟨#[]⟩ : ByteArray)).bind fun t246 => (if t246 = t245 then ((rivuletlaw02_fixed.f k).bind fun t247 => (some t247)) else (some false))) = some r := H
              have A14 := Aside0.mk A140
              clear A140
              replace H := Option.bind_eq_some_iff.mp H
              obtain ⟨t246, A150, H⟩ := H
              replace H : (if t246 = t245 then ((rivuletlaw02_fixed.f k).bind fun t247 => (some t247)) else (some false)) = some r := H
              have A15 := Aside0.mk A150
              clear A150
              by_cases c16 : t246 = t245
              · rw [if_pos c16] at H
                have c16b0 : (t246 == t245) = true := beq_iff_eq.mpr c16
                have c16b1 : (t246 != t245) = false := bne_eq_false_iff_eq.mpr c16
                clear c16
                replace H := Option.bind_eq_some_iff.mp H
                obtain ⟨t247, A170, H⟩ := H
                replace H : (some t247) = some r := H
                have A17 := Aside0.mk A170
                clear A170
                obtain rfl := Option.some.inj H
                go_enter Try.func6, Try.ntmps6
                go_wp2_with (first | ((with_reducible refine gate_callee (f := 11) rfl ?_); refine goesL_ (some 16) rfl rfl Try.func11 (by kernel_rfl) rfl #[.string Sji3] rfl (by (try simp only [List.map_toArray, List.map_cons, List.map_nil]); first | done | (simp only [hji3]; rfl) | rfl | (simp only [List.length_drop, List.length_take]; rfl)) ?_; (with_reducible refine (check_Sum.calls Sji3 t242 _ A9.out).mono ?_); rintro e w18 ⟨rfl, hb⟩; refine ⟨_, rfl, ?_⟩; have n0_ := Aside0.mk (below_step (by repeat (first | (with_reducible first | exact HB.out | apply below_alloc | apply pw_below_drewN | apply below_drew1) | exact HB.out)) hb); clear HB; have HB := n0_; clear n0_; (try clear hb); (try clear hb2); (try clear hk); (try clear hi)) | ((with_reducible refine gate_callee (f := 13) rfl ?_); refine goesL_ (some 18) rfl rfl Try.func13 (by kernel_rfl) rfl #[.int .u32 t242, .string Sji6] rfl (by (try simp only [List.map_toArray, List.map_cons, List.map_nil]); first | done | (simp only [hji6]; rfl) | rfl | (simp only [List.length_drop, List.length_take]; rfl)) ?_; (with_reducible refine (check_Add.calls t242 Sji6 t243 _ A10.out).mono ?_); rintro e w19 ⟨rfl, hb⟩; refine ⟨_, rfl, ?_⟩; have n0_ := Aside0.mk (below_step (by repeat (first | (with_reducible first | exact HB.out | apply below_alloc | apply pw_below_drewN | apply below_drew1) | exact HB.out)) hb); clear HB; have HB := n0_; clear n0_; (try clear hb); (try clear hb2); (try clear hk); (try clear hi)) | ((with_reducible refine gate_callee (f := 11) rfl ?_); refine goesL_ (some 22) rfl rfl Try.func11 (by kernel_rfl) rfl #[.string (Sji3 ++ Sji6)] rfl (by (try simp only [List.map_toArray, List.map_cons, List.map_nil]); first | done | (simp only [hji3, hji6]; rfl) | rfl | (simp only [List.length_drop, List.length_take]; rfl)) ?_; (with_reducible refine (check_Sum.calls (Sji3 ++ Sji6) t244 _ A12.out).mono ?_); rintro e w20 ⟨rfl, hb⟩; refine ⟨_, rfl, ?_⟩; have n0_ := Aside0.mk (below_step (by repeat (first | (with_reducible first | exact HB.out | apply below_alloc | apply pw_below_drewN | apply below_drew1) | exact HB.out)) hb); clear HB; have HB := n0_; clear n0_; (try clear hb); (try clear hb2); (try clear hk); (try clear hi)) | (go_at_call 11; (with_reducible refine (check_Sum.calls Sji3 t245 _ A14.out).mono ?_); rintro e w21 ⟨rfl, hb⟩; have n0_ := Aside0.mk (below_step (by repeat (first | (with_reducible first | exact HB.out | apply below_alloc | apply pw_below_drewN | apply below_drew1) | exact HB.out)) hb); clear HB; have HB := n0_; clear n0_; (try clear hb); (try clear hb2); (try clear hk); (try clear hi)) | (go_at_call 13; (with_reducible refine (check_Add.calls t245 (⟨#[]⟩ : ByteArray) t246 _ A15.out).mono ?_); rintro e w22 ⟨rfl, hb⟩; have n0_ := Aside0.mk (below_step (by repeat (first | (with_reducible first | exact HB.out | apply below_alloc | apply pw_below_drewN | apply below_drew1) | exact HB.out)) hb); clear HB; have HB := n0_; clear n0_; (try clear hb); (try clear hb2); (try clear hk); (try clear hi)) | (go_at_call 17; (with_reducible refine (rivuletlaw02_fixed.calls k  t247 _ A17.out).mono ?_); rintro e w23 ⟨rfl, hb⟩; have n0_ := Aside0.mk (below_step (by repeat (first | (with_reducible first | exact HB.out | apply below_alloc | apply pw_below_drewN | apply below_drew1) | exact HB.out)) hb); clear HB; have HB := n0_; clear n0_; (try clear hb); (try clear hb2); (try clear hk); (try clear hi)))
                go_ret
                exact ⟨by first | rfl | (simp [errW_none, errW_some] <;> rfl) | (simp only [← hji3, ← hji6]; first | rfl | (simp [errW_none, errW_some] <;> rfl)) | (simp [*, errW_none, errW_some] <;> rfl), by repeat (first | (with_reducible first | exact HB.out | apply below_alloc | apply pw_below_drewN | apply below_drew1) | exact HB.out)⟩
              · rw [if_neg c16] at H
                have c16b0 : (t246 == t245) = false := beq_eq_false_iff_ne.mpr c16
                have c16b1 : (t246 != t245) = true := bne_iff_ne.mpr c16
                obtain rfl := Option.some.inj H
                go_enter Try.func6, Try.ntmps6
                go_wp2_with (first | ((with_reducible refine gate_callee (f := 11) rfl ?_); refine goesL_ (some 16) rfl rfl Try.func11 (by kernel_rfl) rfl #[.string Sji3] rfl (by (try simp only [List.map_toArray, List.map_cons, List.map_nil]); first | done | (simp only [hji3]; rfl) | rfl | (simp only [List.length_drop, List.length_take]; rfl)) ?_; (with_reducible refine (check_Sum.calls Sji3 t242 _ A9.out).mono ?_); rintro e w24 ⟨rfl, hb⟩; refine ⟨_, rfl, ?_⟩; have n0_ := Aside0.mk (below_step (by repeat (first | (with_reducible first | exact HB.out | apply below_alloc | apply pw_below_drewN | apply below_drew1) | exact HB.out)) hb); clear HB; have HB := n0_; clear n0_; (try clear hb); (try clear hb2); (try clear hk); (try clear hi)) | ((with_reducible refine gate_callee (f := 13) rfl ?_); refine goesL_ (some 18) rfl rfl Try.func13 (by kernel_rfl) rfl #[.int .u32 t242, .string Sji6] rfl (by (try simp only [List.map_toArray, List.map_cons, List.map_nil]); first | done | (simp only [hji6]; rfl) | rfl | (simp only [List.length_drop, List.length_take]; rfl)) ?_; (with_reducible refine (check_Add.calls t242 Sji6 t243 _ A10.out).mono ?_); rintro e w25 ⟨rfl, hb⟩; refine ⟨_, rfl, ?_⟩; have n0_ := Aside0.mk (below_step (by repeat (first | (with_reducible first | exact HB.out | apply below_alloc | apply pw_below_drewN | apply below_drew1) | exact HB.out)) hb); clear HB; have HB := n0_; clear n0_; (try clear hb); (try clear hb2); (try clear hk); (try clear hi)) | ((with_reducible refine gate_callee (f := 11) rfl ?_); refine goesL_ (some 22) rfl rfl Try.func11 (by kernel_rfl) rfl #[.string (Sji3 ++ Sji6)] rfl (by (try simp only [List.map_toArray, List.map_cons, List.map_nil]); first | done | (simp only [hji3, hji6]; rfl) | rfl | (simp only [List.length_drop, List.length_take]; rfl)) ?_; (with_reducible refine (check_Sum.calls (Sji3 ++ Sji6) t244 _ A12.out).mono ?_); rintro e w26 ⟨rfl, hb⟩; refine ⟨_, rfl, ?_⟩; have n0_ := Aside0.mk (below_step (by repeat (first | (with_reducible first | exact HB.out | apply below_alloc | apply pw_below_drewN | apply below_drew1) | exact HB.out)) hb); clear HB; have HB := n0_; clear n0_; (try clear hb); (try clear hb2); (try clear hk); (try clear hi)) | (go_at_call 11; (with_reducible refine (check_Sum.calls Sji3 t245 _ A14.out).mono ?_); rintro e w27 ⟨rfl, hb⟩; have n0_ := Aside0.mk (below_step (by repeat (first | (with_reducible first | exact HB.out | apply below_alloc | apply pw_below_drewN | apply below_drew1) | exact HB.out)) hb); clear HB; have HB := n0_; clear n0_; (try clear hb); (try clear hb2); (try clear hk); (try clear hi)) | (go_at_call 13; (with_reducible refine (check_Add.calls t245 (⟨#[]⟩ : ByteArray) t246 _ A15.out).mono ?_); rintro e w28 ⟨rfl, hb⟩; have n0_ := Aside0.mk (below_step (by repeat (first | (with_reducible first | exact HB.out | apply below_alloc | apply pw_below_drewN | apply below_drew1) | exact HB.out)) hb); clear HB; have HB := n0_; clear n0_; (try clear hb); (try clear hb2); (try clear hk); (try clear hi)))
                go_ret
                exact ⟨by first | rfl | (simp [errW_none, errW_some] <;> rfl) | (simp only [← hji3, ← hji6]; first | rfl | (simp [errW_none, errW_some] <;> rfl)) | (simp [*, errW_none, errW_some] <;> rfl), by repeat (first | (with_reducible first | exact HB.out | apply below_alloc | apply pw_below_drewN | apply below_drew1) | exact HB.out)⟩
            · rw [if_neg c13] at H
              have c13b0 : (t243 == t244) = false := beq_eq_false_iff_ne.mpr c13
              have c13b1 : (t243 != t244) = true := bne_iff_ne.mpr c13
              obtain rfl := Option.some.inj H
              go_enter Try.func6, Try.ntmps6
              go_wp2_with (first | ((with_reducible refine gate_callee (f := 11) rfl ?_); refine goesL_ (some 16) rfl rfl Try.func11 (by kernel_rfl) rfl #[.string Sji3] rfl (by (try simp only [List.map_toArray, List.map_cons, List.map_nil]); first | done | (simp only [hji3]; rfl) | rfl | (simp only [List.length_drop, List.length_take]; rfl)) ?_; (with_reducible refine (check_Sum.calls Sji3 t242 _ A9.out).mono ?_); rintro e w29 ⟨rfl, hb⟩; refine ⟨_, rfl, ?_⟩; have n0_ := Aside0.mk (below_step (by repeat (first | (with_reducible first | exact HB.out | apply below_alloc | apply pw_below_drewN | apply below_drew1) | exact HB.out)) hb); clear HB; have HB := n0_; clear n0_; (try clear hb); (try clear hb2); (try clear hk); (try clear hi)) | ((with_reducible refine gate_callee (f := 13) rfl ?_); refine goesL_ (some 18) rfl rfl Try.func13 (by kernel_rfl) rfl #[.int .u32 t242, .string Sji6] rfl (by (try simp only [List.map_toArray, List.map_cons, List.map_nil]); first | done | (simp only [hji6]; rfl) | rfl | (simp only [List.length_drop, List.length_take]; rfl)) ?_; (with_reducible refine (check_Add.calls t242 Sji6 t243 _ A10.out).mono ?_); rintro e w30 ⟨rfl, hb⟩; refine ⟨_, rfl, ?_⟩; have n0_ := Aside0.mk (below_step (by repeat (first | (with_reducible first | exact HB.out | apply below_alloc | apply pw_below_drewN | apply below_drew1) | exact HB.out)) hb); clear HB; have HB := n0_; clear n0_; (try clear hb); (try clear hb2); (try clear hk); (try clear hi)) | ((with_reducible refine gate_callee (f := 11) rfl ?_); refine goesL_ (some 22) rfl rfl Try.func11 (by kernel_rfl) rfl #[.string (Sji3 ++ Sji6)] rfl (by (try simp only [List.map_toArray, List.map_cons, List.map_nil]); first | done | (simp only [hji3, hji6]; rfl) | rfl | (simp only [List.length_drop, List.length_take]; rfl)) ?_; (with_reducible refine (check_Sum.calls (Sji3 ++ Sji6) t244 _ A12.out).mono ?_); rintro e w31 ⟨rfl, hb⟩; refine ⟨_, rfl, ?_⟩; have n0_ := Aside0.mk (below_step (by repeat (first | (with_reducible first | exact HB.out | apply below_alloc | apply pw_below_drewN | apply below_drew1) | exact HB.out)) hb); clear HB; have HB := n0_; clear n0_; (try clear hb); (try clear hb2); (try clear hk); (try clear hi)))
              go_ret
              exact ⟨by first | rfl | (simp [errW_none, errW_some] <;> rfl) | (simp only [← hji3, ← hji6]; first | rfl | (simp [errW_none, errW_some] <;> rfl)) | (simp [*, errW_none, errW_some] <;> rfl), by repeat (first | (with_reducible first | exact HB.out | apply below_alloc | apply pw_below_drewN | apply below_drew1) | exact HB.out)⟩
          · rw [if_neg c11] at H
            exact absurd H (by simp)
        · rw [if_neg c8] at H
          exact absurd H (by simp)
      · rw [if_neg c7] at H
        exact absurd H (by simp)
    · rw [if_neg c5] at H
      exact absurd H (by simp)
  · rw [if_neg c4] at H
    exact absurd H (by simp)

/-- THE ONE PURE STATEMENT of rivuletlaw02_CheckJoins: yours. -/
def rivuletlaw02_CheckJoins.Pure : Prop := ∀ (a0 : ByteArray) (a1 : ByteArray), a0.size ≤ 140737488351232 → a1.size ≤ 140737488351232 → ∃ k, rivuletlaw02_CheckJoins.f k a0 a1 = some true
theorem rivuletlaw02_CheckJoins.walk (P : rivuletlaw02_CheckJoins.Pure) (a0 : ByteArray) (a1 : ByteArray) (w : World) (w0 : a0.size ≤ 140737488351232) (w1 : a1.size ≤ 140737488351232) :
    Calls Try.prog 6 #[.string a0, .string a1] w fun e w' => e = .returned (.bool true) ∧ Below w.heap.size w w' := by
  obtain ⟨k, h⟩ := P a0 a1 w0 w1
  refine (rivuletlaw02_CheckJoins.calls k a0 a1 true w h).mono ?_
  rintro e w' ⟨rfl, hd⟩
  exact ⟨rfl, hd⟩

end Go.Proofs.Ythincnfcekcdaaa.Pr
