-- Printed by this session's changed copy of the kit's printer (wip/tools/mkprint.py; some functions are given by hand). Lean checks it.
import Derived.Test.YtjmegjdgebmfeaaPr0
import Derived.Test.YtjmegjdgebmfeaaPr1
import Derived.Test.YtjmegjdgebmfeaaPr2
namespace Go.Proofs.Ytjmegjdgebmfeaa.Pr
open Go.RowKit Go.Proofs.YtjmegjdgebmfeaaW.PrintWords Go.Proofs.YtjmegjdgebmfeaaW.PrintLast Go.Proofs.YtjmegjdgebmfeaaW.PrintMore
attribute [local go_sem] max2_int min2_int max_two min_two max_three min_three max_four min_four   -- for this text's walks alone
set_option linter.unusedVariables false
set_option linter.unusedSimpArgs false

/-! ### rivuletlaw01_VarintCuts: function 8 -/
def rivuletlaw01_VarintCuts.j0 : Nat → Int → ByteArray → ByteArray → Bool → Option (Bool)
  | 0, _, _, _, _ => none
  | k + 1, x2, x7, x8, x31 => if x31 = true then (some false) else (if (x7.size : Int) = 0 then (none) else (if 0 ≤ (Int.tmod (Go.bits .and .i64 x2 65535) (x7.size : Int)) then (if (Int.tmod (Go.bits .and .i64 x2 65535) (x7.size : Int)) ≤ (x7.size : Int) then ((varint_Get.f k (x7.extract 0 ((Int.tmod (Go.bits .and .i64 x2 65535) (x7.size : Int)) : Int).toNat) 0).bind fun bt199 => (if (x8.size : Int) = 0 then (none) else (if 0 ≤ (Int.tmod (Go.bits .and .i64 x2 65535) (x8.size : Int)) then (if (Int.tmod (Go.bits .and .i64 x2 65535) (x8.size : Int)) ≤ (x8.size : Int) then ((varint_Cut.f k (x8.extract 0 ((Int.tmod (Go.bits .and .i64 x2 65535) (x8.size : Int)) : Int).toNat) 0).bind fun bt202 => (if bt199.2.2 = 3 then (if bt202.2.2 = 3 then ((rivuletlaw01_fixed.f).bind fun t205 => (some t205)) else (some false)) else (some false))) else (none)) else (none)))) else (none)) else (none)))
def rivuletlaw01_VarintCuts.f (k : Nat) (a0 : Int) (a1 : ByteArray) (a2 : Int) : Option (Bool) := if 0 ≤ (mn (a1.size : Int) 300) then (if (mn (a1.size : Int) 300) ≤ (a1.size : Int) then ((varint_Put.f k a0).bind fun t197 => ((varint_Text.f k (a1.extract 0 ((mn (a1.size : Int) 300) : Int).toNat)).bind fun t198 => (if (t197.size : Int) = 0 then (rivuletlaw01_VarintCuts.j0 k a2 t197 t198 true) else (rivuletlaw01_VarintCuts.j0 k a2 t197 t198 ((t198.size : Int) == 0))))) else (none)) else (none)
theorem rivuletlaw01_VarintCuts.mono_l : ∀ k, (∀ y0 y1 y2 y3, LeO (rivuletlaw01_VarintCuts.j0 k y0 y1 y2 y3) (rivuletlaw01_VarintCuts.j0 (k + 1) y0 y1 y2 y3))
  | 0 => fun _ _ _ _ r h => by simp [rivuletlaw01_VarintCuts.j0] at h
  | k + 1 => by
    have ih0 := rivuletlaw01_VarintCuts.mono_l k
    · intro y0 y1 y2 y3
      unfold rivuletlaw01_VarintCuts.j0
      repeat' first
      | (with_reducible exact ih0 _ _ _ _)
      | (with_reducible exact varint_Cut.mono _ _ _)
      | (with_reducible exact varint_Get.mono _ _ _)
      | (with_reducible exact varint_Put.mono _ _)
      | (with_reducible exact varint_Text.mono _ _)
      | (with_reducible exact LeO.refl _)
      | (with_reducible exact LeO.none _)
      | (with_reducible refine LeO.ite ?_ ?_)
      | (with_reducible refine LeO.bind ?_ (fun _ => ?_))
      | exact ih0 _ _ _ _
      | exact varint_Cut.mono _ _ _
      | exact varint_Get.mono _ _ _
      | exact varint_Put.mono _ _
      | exact varint_Text.mono _ _
      | exact LeO.none _
      | refine LeO.ite ?_ ?_
      | refine LeO.bind ?_ (fun _ => ?_)
theorem rivuletlaw01_VarintCuts.mono : ∀ a0 a1 a2 k, LeO (rivuletlaw01_VarintCuts.f k a0 a1 a2) (rivuletlaw01_VarintCuts.f (k + 1) a0 a1 a2) := by
  intro a0 a1 a2 k
  have ih0 := rivuletlaw01_VarintCuts.mono_l k
  unfold rivuletlaw01_VarintCuts.f
  repeat' first
      | (with_reducible exact ih0 _ _ _ _)
      | (with_reducible exact varint_Cut.mono _ _ _)
      | (with_reducible exact varint_Get.mono _ _ _)
      | (with_reducible exact varint_Put.mono _ _)
      | (with_reducible exact varint_Text.mono _ _)
      | (with_reducible exact LeO.refl _)
      | (with_reducible exact LeO.none _)
      | (with_reducible refine LeO.ite ?_ ?_)
      | (with_reducible refine LeO.bind ?_ (fun _ => ?_))
      | exact ih0 _ _ _ _
      | exact varint_Cut.mono _ _ _
      | exact varint_Get.mono _ _ _
      | exact varint_Put.mono _ _
      | exact varint_Text.mono _ _
      | exact LeO.none _
      | refine LeO.ite ?_ ?_
      | refine LeO.bind ?_ (fun _ => ?_)
set_option maxHeartbeats 8000000 in
set_option maxRecDepth 100000 in
theorem rivuletlaw01_VarintCuts.calls (k : Nat) (a0 : Int) (a1 : ByteArray) (a2 : Int) (r : Bool) (w : World) (h : rivuletlaw01_VarintCuts.f k a0 a1 a2 = some r) :
    Calls Try.prog 8 #[.int .u64 a0, .string a1, .int .i64 a2] w fun e w' => e = .returned (.bool r) ∧ Below w.heap.size w w' := by
  have HB := Aside0.mk (Below.refl w.heap.size w)
  have H : (if 0 ≤ (mn (a1.size : Int) 300) then (if (mn (a1.size : Int) 300) ≤ (a1.size : Int) then ((varint_Put.f k a0).bind fun t197 => ((varint_Text.f k (a1.extract 0 ((mn (a1.size : Int) 300) : Int).toNat)).bind fun t198 => (if (t197.size : Int) = 0 then (rivuletlaw01_VarintCuts.j0 k a2 t197 t198 true) else (rivuletlaw01_VarintCuts.j0 k a2 t197 t198 ((t198.size : Int) == 0))))) else (none)) else (none)) = some r := h
  clear h
  obtain ⟨ji4, hji4⟩ : ∃ j_ : Int, (mn (a1.size : Int) 300) = j_ := ⟨_, rfl⟩
  replace H : (if 0 ≤ (ji4) then (if (ji4) ≤ (a1.size : Int) then ((varint_Put.f k a0).bind fun t197 => ((varint_Text.f k (a1.extract 0 ((ji4) : Int).toNat)).bind fun t198 => (if (t197.size : Int) = 0 then (rivuletlaw01_VarintCuts.j0 k a2 t197 t198 true) else (rivuletlaw01_VarintCuts.j0 k a2 t197 t198 ((t198.size : Int) == 0))))) else (none)) else (none)) = some r := by first | (rw [hji4] at H; exact H) | (simp only [hji4] at H ⊢; exact H)
  (try (have hji4h : ji4 ≤ 300 := by (rw [← hji4]; unfold mn; (repeat' split) <;> omega)))
  (try (have hji4g : ji4 ≤ 64 := by omega))
  (try (have hji4l : 0 ≤ ji4 := by (rw [← hji4]; unfold mn; (repeat' split) <;> omega)))
  (try (have hji4m : 0 ≤ ji4 := by omega))
  have hji4_ : (if 300 < (a1.size : Int) then 300 else (a1.size : Int)) = ji4 := hji4
  by_cases c5 : 0 ≤ (ji4)
  · rw [if_pos c5] at H
    have c5b0 := eq_true c5
    have c5b1 : decide (0 ≤ (ji4)) = true := decide_eq_true c5
    clear c5
    by_cases c6 : (ji4) ≤ (a1.size : Int)
    · rw [if_pos c6] at H
      have c6b0 := eq_true c6
      have c6b1 : decide ((ji4) ≤ (a1.size : Int)) = true := decide_eq_true c6
      clear c6
      replace H := Option.bind_eq_some_iff.mp H
      obtain ⟨t197, A70, H⟩ := H
      replace H : ((varint_Text.f k (a1.extract 0 ((ji4) : Int).toNat)).bind fun t198 => (if (t197.size : Int) = 0 then (rivuletlaw01_VarintCuts.j0 k a2 t197 t198 true) else (rivuletlaw01_VarintCuts.j0 k a2 t197 t198 ((t198.size : Int) == 0)))) = some r := H
      have A7 := Aside0.mk A70
      clear A70
      replace H := Option.bind_eq_some_iff.mp H
      obtain ⟨t198, A80, H⟩ := H
      replace H : (if (t197.size : Int) = 0 then (rivuletlaw01_VarintCuts.j0 k a2 t197 t198 true) else (rivuletlaw01_VarintCuts.j0 k a2 t197 t198 ((t198.size : Int) == 0))) = some r := H
      have A8 := Aside0.mk A80
      clear A80
      have HC9 := Aside0.mk H
      clear H
      go_enter Try.func8, Try.ntmps8
      go_upto_region 3 with (first | ((with_reducible refine gate_callee (f := 11) rfl ?_); refine goesL_ (some 21) rfl rfl Try.func11 (by kernel_rfl) rfl #[.int .u64 a0] rfl (by (try simp only [List.map_toArray, List.map_cons, List.map_nil]); first | done | rfl | (simp only [List.length_drop, List.length_take]; rfl)) ?_; (with_reducible refine (varint_Put.calls k a0 t197 _ A7.out).mono ?_); rintro e w10 ⟨rfl, hb⟩; refine ⟨_, rfl, ?_⟩; have n0_ := Aside0.mk (below_step (by repeat (first | (with_reducible first | exact HB.out | apply below_alloc | apply pw_below_drewN | apply below_drew1) | exact HB.out)) hb); clear HB; have HB := n0_; clear n0_; (try clear hb); (try clear hb2); (try clear hk); (try clear hi)) | ((with_reducible refine gate_callee (f := 14) rfl ?_); refine goesL_ (some 23) rfl rfl Try.func14 (by kernel_rfl) rfl #[.string (a1.extract 0 ((ji4) : Int).toNat)] rfl (by (try simp only [List.map_toArray, List.map_cons, List.map_nil]); first | done | (simp only [hji4]; rfl) | rfl | (simp only [List.length_drop, List.length_take]; rfl)) ?_; (with_reducible refine (varint_Text.calls k (a1.extract 0 ((ji4) : Int).toNat) t198 _ A8.out).mono ?_); rintro e w11 ⟨rfl, hb⟩; refine ⟨_, rfl, ?_⟩; have n0_ := Aside0.mk (below_step (by repeat (first | (with_reducible first | exact HB.out | apply below_alloc | apply pw_below_drewN | apply below_drew1) | exact HB.out)) hb); clear HB; have HB := n0_; clear n0_; (try clear hb); (try clear hb2); (try clear hk); (try clear hi)))
      (try simp only [Act.put, List.setIfInBounds_toArray, List.set_cons_zero, List.set_cons_succ])
      go_cut [31] (fun v31 wc => ∃ (kq : Nat) (x31_8 : Bool), v31 = .bool x31_8 ∧ Aside0 (rivuletlaw01_VarintCuts.j0 kq a2 t197 t198 x31_8 = some r) ∧ Aside0 (kq ≤ k) ∧ Aside0 (Below w.heap.size w wc))
      case first =>
        have H := HC9.out
        clear HC9
        by_cases c12 : (t197.size : Int) = 0
        · rw [if_pos c12] at H
          have c12b0 : ((t197.size : Int) == 0) = true := beq_iff_eq.mpr c12
          have c12b1 : ((t197.size : Int) != 0) = false := bne_eq_false_iff_eq.mpr c12
          clear c12
          (first | rw [c12b0] | (simp only [i64_w, i32_w]; rw [c12b0]) | skip)
          have H' := Aside0.mk H
          clear H
          go_wp2
          go_meet
          case rel => exact ⟨_, (true), (by first | rfl | (simp; done) | (simp [*]; done)), H', ⟨by first | omega | exact Nat.le_refl _⟩, ⟨by repeat (first | (with_reducible first | exact HB.out | apply below_alloc | apply pw_below_drewN | apply below_drew1) | exact HB.out)⟩⟩
        · rw [if_neg c12] at H
          have c12b0 : ((t197.size : Int) == 0) = false := beq_eq_false_iff_ne.mpr c12
          have c12b1 : ((t197.size : Int) != 0) = true := bne_iff_ne.mpr c12
          (first | rw [c12b0] | (simp only [i64_w, i32_w]; rw [c12b0]) | skip)
          have H' := Aside0.mk H
          clear H
          go_wp2
          go_meet
          case rel => exact ⟨_, (((t198.size : Int) == 0)), (by first | rfl | (simp; done) | (simp [*]; done)), H', ⟨by first | omega | exact Nat.le_refl _⟩, ⟨by repeat (first | (with_reducible first | exact HB.out | apply below_alloc | apply pw_below_drewN | apply below_drew1) | exact HB.out)⟩⟩
      case rest =>
        clear HC9
        try clear c1
        try clear p2
        try clear c5
        try clear c5b0
        try clear c5b1
        try clear c6
        try clear c6b0
        try clear c6b1
        try clear c8
        try clear c11
        try clear c12
        try clear c12b0
        try clear c12b1
        obtain ⟨kq, x31_8, rfl, HA, HJ8, HB⟩ := hcut
        cases kq with
        | zero => exact absurd HA.out (by simp [rivuletlaw01_VarintCuts.j0])
        | succ kj8 =>
          have H := HA.out
          clear HA
          simp only [rivuletlaw01_VarintCuts.j0] at H
          by_cases c13 : x31_8 = true
          · subst c13
            have H1 : (some false) = some r := by rw [if_pos rfl] at H; exact H
            clear H
            have H := H1
            clear H1
            obtain rfl := Option.some.inj H
            go_wp2
            go_ret
            exact ⟨by first | rfl | (simp [errW_none, errW_some] <;> rfl) | (simp only [← hji4]; first | rfl | (simp [errW_none, errW_some] <;> rfl)) | (simp [*, errW_none, errW_some] <;> rfl), by repeat (first | (with_reducible first | exact HB.out | apply below_alloc | apply pw_below_drewN | apply below_drew1) | exact HB.out)⟩
          · replace c13 := Bool.eq_false_iff.mpr c13
            subst c13
            have H1 : (if (t197.size : Int) = 0 then (none) else (if 0 ≤ (Int.tmod (Go.bits .and .i64 a2 65535) (t197.size : Int)) then (if (Int.tmod (Go.bits .and .i64 a2 65535) (t197.size : Int)) ≤ (t197.size : Int) then ((varint_Get.f kj8 (t197.extract 0 ((Int.tmod (Go.bits .and .i64 a2 65535) (t197.size : Int)) : Int).toNat) 0).bind fun bt199 => (if (t198.size : Int) = 0 then (none) else (if 0 ≤ (Int.tmod (Go.bits .and .i64 a2 65535) (t198.size : Int)) then (if (Int.tmod (Go.bits .and .i64 a2 65535) (t198.size : Int)) ≤ (t198.size : Int) then ((varint_Cut.f kj8 (t198.extract 0 ((Int.tmod (Go.bits .and .i64 a2 65535) (t198.size : Int)) : Int).toNat) 0).bind fun bt202 => (if bt199.2.2 = 3 then (if bt202.2.2 = 3 then ((rivuletlaw01_fixed.f).bind fun t205 => (some t205)) else (some false)) else (some false))) else (none)) else (none)))) else (none)) else (none))) = some r := by rw [if_neg (show ¬ (false = true) by decide)] at H; exact H
            clear H
            have H := H1
            clear H1
            by_cases c14 : (t197.size : Int) = 0
            · rw [if_pos c14] at H
              exact absurd H (by simp)
            · rw [if_neg c14] at H
              have c14b0 : ((t197.size : Int) == 0) = false := beq_eq_false_iff_ne.mpr c14
              have c14b1 : ((t197.size : Int) != 0) = true := bne_iff_ne.mpr c14
              obtain ⟨ji15, hji15⟩ : ∃ j_ : Int, (Int.tmod (Go.bits .and .i64 a2 65535) (t197.size : Int)) = j_ := ⟨_, rfl⟩
              replace H : (if 0 ≤ (ji15) then (if (ji15) ≤ (t197.size : Int) then ((varint_Get.f kj8 (t197.extract 0 ((ji15) : Int).toNat) 0).bind fun bt199 => (if (t198.size : Int) = 0 then (none) else (if 0 ≤ (Int.tmod (Go.bits .and .i64 a2 65535) (t198.size : Int)) then (if (Int.tmod (Go.bits .and .i64 a2 65535) (t198.size : Int)) ≤ (t198.size : Int) then ((varint_Cut.f kj8 (t198.extract 0 ((Int.tmod (Go.bits .and .i64 a2 65535) (t198.size : Int)) : Int).toNat) 0).bind fun bt202 => (if bt199.2.2 = 3 then (if bt202.2.2 = 3 then ((rivuletlaw01_fixed.f).bind fun t205 => (some t205)) else (some false)) else (some false))) else (none)) else (none)))) else (none)) else (none)) = some r := by first | (rw [hji15] at H; exact H) | (simp only [hji15] at H ⊢; exact H)
              by_cases c16 : 0 ≤ (ji15)
              · rw [if_pos c16] at H
                have c16b0 := eq_true c16
                have c16b1 : decide (0 ≤ (ji15)) = true := decide_eq_true c16
                clear c16
                by_cases c17 : (ji15) ≤ (t197.size : Int)
                · rw [if_pos c17] at H
                  have c17b0 := eq_true c17
                  have c17b1 : decide ((ji15) ≤ (t197.size : Int)) = true := decide_eq_true c17
                  clear c17
                  replace H := Option.bind_eq_some_iff.mp H
                  obtain ⟨⟨t199, t200, t201⟩, A180, H⟩ := H
                  replace H : (if (t198.size : Int) = 0 then (none) else (if 0 ≤ (Int.tmod (Go.bits .and .i64 a2 65535) (t198.size : Int)) then (if (Int.tmod (Go.bits .and .i64 a2 65535) (t198.size : Int)) ≤ (t198.size : Int) then ((varint_Cut.f kj8 (t198.extract 0 ((Int.tmod (Go.bits .and .i64 a2 65535) (t198.size : Int)) : Int).toNat) 0).bind fun bt202 => (if t201 = 3 then (if bt202.2.2 = 3 then ((rivuletlaw01_fixed.f).bind fun t205 => (some t205)) else (some false)) else (some false))) else (none)) else (none))) = some r := H
                  have A18 := Aside0.mk A180
                  clear A180
                  by_cases c19 : (t198.size : Int) = 0
                  · rw [if_pos c19] at H
                    exact absurd H (by simp)
                  · rw [if_neg c19] at H
                    have c19b0 : ((t198.size : Int) == 0) = false := beq_eq_false_iff_ne.mpr c19
                    have c19b1 : ((t198.size : Int) != 0) = true := bne_iff_ne.mpr c19
                    obtain ⟨ji20, hji20⟩ : ∃ j_ : Int, (Int.tmod (Go.bits .and .i64 a2 65535) (t198.size : Int)) = j_ := ⟨_, rfl⟩
                    replace H : (if 0 ≤ (ji20) then (if (ji20) ≤ (t198.size : Int) then ((varint_Cut.f kj8 (t198.extract 0 ((ji20) : Int).toNat) 0).bind fun bt202 => (if t201 = 3 then (if bt202.2.2 = 3 then ((rivuletlaw01_fixed.f).bind fun t205 => (some t205)) else (some false)) else (some false))) else (none)) else (none)) = some r := by first | (rw [hji20] at H; exact H) | (simp only [hji20] at H ⊢; exact H)
                    (try rw [hji20] at A18)
                    by_cases c21 : 0 ≤ (ji20)
                    · rw [if_pos c21] at H
                      have c21b0 := eq_true c21
                      have c21b1 : decide (0 ≤ (ji20)) = true := decide_eq_true c21
                      clear c21
                      by_cases c22 : (ji20) ≤ (t198.size : Int)
                      · rw [if_pos c22] at H
                        have c22b0 := eq_true c22
                        have c22b1 : decide ((ji20) ≤ (t198.size : Int)) = true := decide_eq_true c22
                        clear c22
                        replace H := Option.bind_eq_some_iff.mp H
                        obtain ⟨⟨t202, t203, t204⟩, A230, H⟩ := H
                        replace H : (if t201 = 3 then (if t204 = 3 then ((rivuletlaw01_fixed.f).bind fun t205 => (some t205)) else (some false)) else (some false)) = some r := H
                        have A23 := Aside0.mk A230
                        clear A230
                        by_cases c24 : t201 = 3
                        · rw [if_pos c24] at H
                          have c24b0 : (t201 == 3) = true := beq_iff_eq.mpr c24
                          have c24b1 : (t201 != 3) = false := bne_eq_false_iff_eq.mpr c24
                          clear c24
                          by_cases c25 : t204 = 3
                          · rw [if_pos c25] at H
                            have c25b0 : (t204 == 3) = true := beq_iff_eq.mpr c25
                            have c25b1 : (t204 != 3) = false := bne_eq_false_iff_eq.mpr c25
                            clear c25
                            replace H := Option.bind_eq_some_iff.mp H
                            obtain ⟨t205, A260, H⟩ := H
                            replace H : (some t205) = some r := H
                            have A26 := Aside0.mk A260
                            clear A260
                            obtain rfl := Option.some.inj H
                            go_wp2_with (first | ((with_reducible refine gate_callee (f := 19) rfl ?_); refine goesL_ (some 40) rfl rfl Try.func19 (by kernel_rfl) rfl #[.string (t197.extract 0 ((ji15) : Int).toNat), .int .i64 0] rfl (by (try simp only [List.map_toArray, List.map_cons, List.map_nil]); first | done | (simp only [hji15]; rfl) | rfl | (simp only [List.length_drop, List.length_take]; rfl)) ?_; (with_reducible refine (varint_Get.calls kj8 (t197.extract 0 ((ji15) : Int).toNat) 0 t199 t200 t201 _ A18.out).mono ?_); rintro e w27 ⟨rfl, hb⟩; refine ⟨_, rfl, ?_⟩; have n0_ := Aside0.mk (below_step (by repeat (first | (with_reducible first | exact HB.out | apply below_alloc | apply pw_below_drewN | apply below_drew1) | exact HB.out)) hb); clear HB; have HB := n0_; clear n0_; (try clear hb); (try clear hb2); (try clear hk); (try clear hi)) | ((with_reducible refine gate_callee (f := 21) rfl ?_); refine goesL_ (some 52) rfl rfl Try.func21 (by kernel_rfl) rfl #[.string (t198.extract 0 ((ji20) : Int).toNat), .int .i64 0] rfl (by (try simp only [List.map_toArray, List.map_cons, List.map_nil]); first | done | (simp only [hji20]; rfl) | rfl | (simp only [List.length_drop, List.length_take]; rfl)) ?_; (with_reducible refine (varint_Cut.calls kj8 (t198.extract 0 ((ji20) : Int).toNat) 0 t202 t203 t204 _ A23.out).mono ?_); rintro e w28 ⟨rfl, hb⟩; refine ⟨_, rfl, ?_⟩; have n0_ := Aside0.mk (below_step (by repeat (first | (with_reducible first | exact HB.out | apply below_alloc | apply pw_below_drewN | apply below_drew1) | exact HB.out)) hb); clear HB; have HB := n0_; clear n0_; (try clear hb); (try clear hb2); (try clear hk); (try clear hi)) | (go_at_call 18; (with_reducible refine (rivuletlaw01_fixed.calls  t205 _ A26.out).mono ?_); rintro e w29 ⟨rfl, hb⟩; have n0_ := Aside0.mk (below_step (by repeat (first | (with_reducible first | exact HB.out | apply below_alloc | apply pw_below_drewN | apply below_drew1) | exact HB.out)) hb); clear HB; have HB := n0_; clear n0_; (try clear hb); (try clear hb2); (try clear hk); (try clear hi)))
                            go_ret
                            exact ⟨by first | rfl | (simp [errW_none, errW_some] <;> rfl) | (simp only [← hji4, ← hji15, ← hji20]; first | rfl | (simp [errW_none, errW_some] <;> rfl)) | (simp [*, errW_none, errW_some] <;> rfl), by repeat (first | (with_reducible first | exact HB.out | apply below_alloc | apply pw_below_drewN | apply below_drew1) | exact HB.out)⟩
                          · rw [if_neg c25] at H
                            have c25b0 : (t204 == 3) = false := beq_eq_false_iff_ne.mpr c25
                            have c25b1 : (t204 != 3) = true := bne_iff_ne.mpr c25
                            obtain rfl := Option.some.inj H
                            go_wp2_with (first | ((with_reducible refine gate_callee (f := 19) rfl ?_); refine goesL_ (some 40) rfl rfl Try.func19 (by kernel_rfl) rfl #[.string (t197.extract 0 ((ji15) : Int).toNat), .int .i64 0] rfl (by (try simp only [List.map_toArray, List.map_cons, List.map_nil]); first | done | (simp only [hji15]; rfl) | rfl | (simp only [List.length_drop, List.length_take]; rfl)) ?_; (with_reducible refine (varint_Get.calls kj8 (t197.extract 0 ((ji15) : Int).toNat) 0 t199 t200 t201 _ A18.out).mono ?_); rintro e w30 ⟨rfl, hb⟩; refine ⟨_, rfl, ?_⟩; have n0_ := Aside0.mk (below_step (by repeat (first | (with_reducible first | exact HB.out | apply below_alloc | apply pw_below_drewN | apply below_drew1) | exact HB.out)) hb); clear HB; have HB := n0_; clear n0_; (try clear hb); (try clear hb2); (try clear hk); (try clear hi)) | ((with_reducible refine gate_callee (f := 21) rfl ?_); refine goesL_ (some 52) rfl rfl Try.func21 (by kernel_rfl) rfl #[.string (t198.extract 0 ((ji20) : Int).toNat), .int .i64 0] rfl (by (try simp only [List.map_toArray, List.map_cons, List.map_nil]); first | done | (simp only [hji20]; rfl) | rfl | (simp only [List.length_drop, List.length_take]; rfl)) ?_; (with_reducible refine (varint_Cut.calls kj8 (t198.extract 0 ((ji20) : Int).toNat) 0 t202 t203 t204 _ A23.out).mono ?_); rintro e w31 ⟨rfl, hb⟩; refine ⟨_, rfl, ?_⟩; have n0_ := Aside0.mk (below_step (by repeat (first | (with_reducible first | exact HB.out | apply below_alloc | apply pw_below_drewN | apply below_drew1) | exact HB.out)) hb); clear HB; have HB := n0_; clear n0_; (try clear hb); (try clear hb2); (try clear hk); (try clear hi)))
                            go_ret
                            exact ⟨by first | rfl | (simp [errW_none, errW_some] <;> rfl) | (simp only [← hji4, ← hji15, ← hji20]; first | rfl | (simp [errW_none, errW_some] <;> rfl)) | (simp [*, errW_none, errW_some] <;> rfl), by repeat (first | (with_reducible first | exact HB.out | apply below_alloc | apply pw_below_drewN | apply below_drew1) | exact HB.out)⟩
                        · rw [if_neg c24] at H
                          have c24b0 : (t201 == 3) = false := beq_eq_false_iff_ne.mpr c24
                          have c24b1 : (t201 != 3) = true := bne_iff_ne.mpr c24
                          obtain rfl := Option.some.inj H
                          go_wp2_with (first | ((with_reducible refine gate_callee (f := 19) rfl ?_); refine goesL_ (some 40) rfl rfl Try.func19 (by kernel_rfl) rfl #[.string (t197.extract 0 ((ji15) : Int).toNat), .int .i64 0] rfl (by (try simp only [List.map_toArray, List.map_cons, List.map_nil]); first | done | (simp only [hji15]; rfl) | rfl | (simp only [List.length_drop, List.length_take]; rfl)) ?_; (with_reducible refine (varint_Get.calls kj8 (t197.extract 0 ((ji15) : Int).toNat) 0 t199 t200 t201 _ A18.out).mono ?_); rintro e w32 ⟨rfl, hb⟩; refine ⟨_, rfl, ?_⟩; have n0_ := Aside0.mk (below_step (by repeat (first | (with_reducible first | exact HB.out | apply below_alloc | apply pw_below_drewN | apply below_drew1) | exact HB.out)) hb); clear HB; have HB := n0_; clear n0_; (try clear hb); (try clear hb2); (try clear hk); (try clear hi)) | ((with_reducible refine gate_callee (f := 21) rfl ?_); refine goesL_ (some 52) rfl rfl Try.func21 (by kernel_rfl) rfl #[.string (t198.extract 0 ((ji20) : Int).toNat), .int .i64 0] rfl (by (try simp only [List.map_toArray, List.map_cons, List.map_nil]); first | done | (simp only [hji20]; rfl) | rfl | (simp only [List.length_drop, List.length_take]; rfl)) ?_; (with_reducible refine (varint_Cut.calls kj8 (t198.extract 0 ((ji20) : Int).toNat) 0 t202 t203 t204 _ A23.out).mono ?_); rintro e w33 ⟨rfl, hb⟩; refine ⟨_, rfl, ?_⟩; have n0_ := Aside0.mk (below_step (by repeat (first | (with_reducible first | exact HB.out | apply below_alloc | apply pw_below_drewN | apply below_drew1) | exact HB.out)) hb); clear HB; have HB := n0_; clear n0_; (try clear hb); (try clear hb2); (try clear hk); (try clear hi)))
                          go_ret
                          exact ⟨by first | rfl | (simp [errW_none, errW_some] <;> rfl) | (simp only [← hji4, ← hji15, ← hji20]; first | rfl | (simp [errW_none, errW_some] <;> rfl)) | (simp [*, errW_none, errW_some] <;> rfl), by repeat (first | (with_reducible first | exact HB.out | apply below_alloc | apply pw_below_drewN | apply below_drew1) | exact HB.out)⟩
                      · rw [if_neg c22] at H
                        exact absurd H (by simp)
                    · rw [if_neg c21] at H
                      exact absurd H (by simp)
                · rw [if_neg c17] at H
                  exact absurd H (by simp)
              · rw [if_neg c16] at H
                exact absurd H (by simp)
    · rw [if_neg c6] at H
      exact absurd H (by simp)
  · rw [if_neg c5] at H
    exact absurd H (by simp)

/-- THE ONE PURE STATEMENT of rivuletlaw01_VarintCuts: yours. -/
def rivuletlaw01_VarintCuts.Pure : Prop := ∀ (a0 : Int) (a1 : ByteArray) (a2 : Int), (Lit.int .u64 a0).wf = true → a1.size ≤ 140737488351232 → (Lit.int .i64 a2).wf = true → ∃ k, rivuletlaw01_VarintCuts.f k a0 a1 a2 = some true
theorem rivuletlaw01_VarintCuts.walk (P : rivuletlaw01_VarintCuts.Pure) (a0 : Int) (a1 : ByteArray) (a2 : Int) (w : World) (w0 : (Lit.int .u64 a0).wf = true) (w1 : a1.size ≤ 140737488351232) (w2 : (Lit.int .i64 a2).wf = true) :
    Calls Try.prog 8 #[.int .u64 a0, .string a1, .int .i64 a2] w fun e w' => e = .returned (.bool true) ∧ Below w.heap.size w w' := by
  obtain ⟨k, h⟩ := P a0 a1 a2 w0 w1 w2
  refine (rivuletlaw01_VarintCuts.calls k a0 a1 a2 true w h).mono ?_
  rintro e w' ⟨rfl, hd⟩
  exact ⟨rfl, hd⟩

end Go.Proofs.Ytjmegjdgebmfeaa.Pr
