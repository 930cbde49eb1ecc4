-- Printed by this session's changed copy of the kit's printer (wip/tools/mkprint.py; some functions are given by hand). Lean checks it.
import Derived.Test.YthincnfcekcdaaaPr0
import Derived.Test.YthincnfcekcdaaaPr1
import Derived.Test.YthincnfcekcdaaaPr3
namespace Go.Proofs.Ythincnfcekcdaaa.Pr
open Go.RowKit Go.Proofs.YthincnfcekcdaaaW.PrintWords Go.Proofs.YthincnfcekcdaaaW.PrintLast Go.Proofs.YthincnfcekcdaaaW.PrintMore
attribute [local go_sem] max2_int min2_int max_two min_two max_three min_three max_four min_four   -- for this text's walks alone
set_option linter.unusedVariables false
set_option linter.unusedSimpArgs false

/-! ### rivuletlaw02_CheckBits: function 7 -/
def rivuletlaw02_CheckBits.f (k : Nat) (a0 : ByteArray) (a1 : Int) (a2 : Int) : Option (Bool) := if 0 ≤ (mn (a0.size : Int) 300) then (if (mn (a0.size : Int) 300) ≤ (a0.size : Int) then (if ((a0.extract 0 ((mn (a0.size : Int) 300) : Int).toNat).size : Int) = 0 then ((rivuletlaw02_fixed.f k).bind fun t248 => (some t248)) else ((check_Seal.f k (a0.extract 0 ((mn (a0.size : Int) 300) : Int).toNat)).bind fun t249 => (if (wrap64 ((wrap64 ((t249.size : Int) - ((a0.extract 0 ((mn (a0.size : Int) 300) : Int).toNat).size : Int))) - 4)) < 1 then (some false) else (if (wrap64 (((a0.extract 0 ((mn (a0.size : Int) 300) : Int).toNat).size : Int) + 4)) = 0 then (none) else ((some (([] : List Int) : List Int)).bind fun y250 => (if y250.length + t249.size < 140737488355328 then ((some (y250 ++ bytesOf t249 : List Int)).bind fun y253 => (if 0 ≤ (wrap64 ((wrap64 ((wrap64 ((t249.size : Int) - ((a0.extract 0 ((mn (a0.size : Int) 300) : Int).toNat).size : Int))) - 4)) + (Int.tmod (Go.bits .and .i64 a1 65535) (wrap64 (((a0.extract 0 ((mn (a0.size : Int) 300) : Int).toNat).size : Int) + 4))))) then (if (wrap64 ((wrap64 ((wrap64 ((t249.size : Int) - ((a0.extract 0 ((mn (a0.size : Int) 300) : Int).toNat).size : Int))) - 4)) + (Int.tmod (Go.bits .and .i64 a1 65535) (wrap64 (((a0.extract 0 ((mn (a0.size : Int) 300) : Int).toNat).size : Int) + 4))))) < (y253.length : Int) then (if 0 ≤ (Go.bits .and .i64 a2 7) then ((check_Open.f k (strOfNums (y253.set ((wrap64 ((wrap64 ((wrap64 ((t249.size : Int) - ((a0.extract 0 ((mn (a0.size : Int) 300) : Int).toNat).size : Int))) - 4)) + (Int.tmod (Go.bits .and .i64 a1 65535) (wrap64 (((a0.extract 0 ((mn (a0.size : Int) 300) : Int).toNat).size : Int) + 4))))) : Int).toNat (Go.bits .xor .u8 (rd y253 (wrap64 ((wrap64 ((wrap64 ((t249.size : Int) - ((a0.extract 0 ((mn (a0.size : Int) 300) : Int).toNat).size : Int))) - 4)) + (Int.tmod (Go.bits .and .i64 a1 65535) (wrap64 (((a0.extract 0 ((mn (a0.size : Int) 300) : Int).toNat).size : Int) + 4)))))) (shl .u8 1 (Go.bits .and .i64 a2 7))))) 0).bind fun bt258 => (if bt258.2.2 = 5 then ((rivuletlaw02_fixed.f k).bind fun t261 => (some t261)) else (some false))) else (none)) else (none)) else (none))) else (none))))))) else (none)) else (none)
theorem rivuletlaw02_CheckBits.mono : ∀ a0 a1 a2 k, LeO (rivuletlaw02_CheckBits.f k a0 a1 a2) (rivuletlaw02_CheckBits.f (k + 1) a0 a1 a2) := by
  intro a0 a1 a2 k
  unfold rivuletlaw02_CheckBits.f
  repeat' first
      | (with_reducible exact check_Open.mono _ _ _)
      | (with_reducible exact check_Seal.mono _ _)
      | (with_reducible exact rivuletlaw02_fixed.mono _)
      | (with_reducible exact LeO.refl _)
      | (with_reducible exact LeO.none _)
      | (with_reducible refine LeO.ite ?_ ?_)
      | (with_reducible refine LeO.bind ?_ (fun _ => ?_))
      | exact check_Open.mono _ _ _
      | exact check_Seal.mono _ _
      | exact rivuletlaw02_fixed.mono _
      | exact LeO.none _
      | refine LeO.ite ?_ ?_
      | refine LeO.bind ?_ (fun _ => ?_)
def rivuletlaw02_CheckBits.T10 : Bool × List (List Nat × List Nat) := (true, [([], []), ([], []), ([], []), ([], []), ([2, 3], [2, 3]), ([4], [4]), ([], []), ([6], [6]), ([7], [7]), ([5, 8], [5, 8]), ([0, 1, 0, 1, 2, 3, 4, 5, 6, 7, 8, 9], [0, 1]), ([10, 9, 0, 1, 2, 3, 4, 5, 6, 7, 8, 9], [9, 10])])
def rivuletlaw02_CheckBits.B10 : List Nat := [0, 0, 0, 0, 12, 28, 0, 64, 192, 508, 1023, 2047]
theorem rivuletlaw02_CheckBits.tab10 : rtab .any (opsOf Try.f7 10) = rivuletlaw02_CheckBits.T10 := by kernel_rfl
theorem rivuletlaw02_CheckBits.bits10 : waitsOk rivuletlaw02_CheckBits.T10.2 rivuletlaw02_CheckBits.B10 = true := by kernel_rfl
set_option maxHeartbeats 8000000 in
set_option maxRecDepth 100000 in
theorem rivuletlaw02_CheckBits.calls (k : Nat) (a0 : ByteArray) (a1 : Int) (a2 : Int) (r : Bool) (w : World) (h : rivuletlaw02_CheckBits.f k a0 a1 a2 = some r) :
    Calls Try.prog 7 #[.string a0, .int .i64 a1, .int .i64 a2] w fun e w' => e = .returned (.bool r) ∧ Below w.heap.size w w' := by
  have HB := Aside0.mk (Below.refl w.heap.size w)
  have H : (if 0 ≤ (mn (a0.size : Int) 300) then (if (mn (a0.size : Int) 300) ≤ (a0.size : Int) then (if ((a0.extract 0 ((mn (a0.size : Int) 300) : Int).toNat).size : Int) = 0 then ((rivuletlaw02_fixed.f k).bind fun t248 => (some t248)) else ((check_Seal.f k (a0.extract 0 ((mn (a0.size : Int) 300) : Int).toNat)).bind fun t249 => (if (wrap64 ((wrap64 ((t249.size : Int) - ((a0.extract 0 ((mn (a0.size : Int) 300) : Int).toNat).size : Int))) - 4)) < 1 then (some false) else (if (wrap64 (((a0.extract 0 ((mn (a0.size : Int) 300) : Int).toNat).size : Int) + 4)) = 0 then (none) else ((some (([] : List Int) : List Int)).bind fun y250 => (if y250.length + t249.size < 140737488355328 then ((some (y250 ++ bytesOf t249 : List Int)).bind fun y253 => (if 0 ≤ (wrap64 ((wrap64 ((wrap64 ((t249.size : Int) - ((a0.extract 0 ((mn (a0.size : Int) 300) : Int).toNat).size : Int))) - 4)) + (Int.tmod (Go.bits .and .i64 a1 65535) (wrap64 (((a0.extract 0 ((mn (a0.size : Int) 300) : Int).toNat).size : Int) + 4))))) then (if (wrap64 ((wrap64 ((wrap64 ((t249.size : Int) - ((a0.extract 0 ((mn (a0.size : Int) 300) : Int).toNat).size : Int))) - 4)) + (Int.tmod (Go.bits .and .i64 a1 65535) (wrap64 (((a0.extract 0 ((mn (a0.size : Int) 300) : Int).toNat).size : Int) + 4))))) < (y253.length : Int) then (if 0 ≤ (Go.bits .and .i64 a2 7) then ((check_Open.f k (strOfNums (y253.set ((wrap64 ((wrap64 ((wrap64 ((t249.size : Int) - ((a0.extract 0 ((mn (a0.size : Int) 300) : Int).toNat).size : Int))) - 4)) + (Int.tmod (Go.bits .and .i64 a1 65535) (wrap64 (((a0.extract 0 ((mn (a0.size : Int) 300) : Int).toNat).size : Int) + 4))))) : Int).toNat (Go.bits .xor .u8 (rd y253 (wrap64 ((wrap64 ((wrap64 ((t249.size : Int) - ((a0.extract 0 ((mn (a0.size : Int) 300) : Int).toNat).size : Int))) - 4)) + (Int.tmod (Go.bits .and .i64 a1 65535) (wrap64 (((a0.extract 0 ((mn (a0.size : Int) 300) : Int).toNat).size : Int) + 4)))))) (shl .u8 1 (Go.bits .and .i64 a2 7))))) 0).bind fun bt258 => (if bt258.2.2 = 5 then ((rivuletlaw02_fixed.f k).bind fun t261 => (some t261)) else (some false))) else (none)) else (none)) else (none))) else (none))))))) else (none)) else (none)) = some r := h
  clear h
  obtain ⟨ji4, hji4⟩ : ∃ j_ : Int, (mn (a0.size : Int) 300) = j_ := ⟨_, rfl⟩
  replace H : (if 0 ≤ (ji4) then (if (ji4) ≤ (a0.size : Int) then (if ((a0.extract 0 ((ji4) : Int).toNat).size : Int) = 0 then ((rivuletlaw02_fixed.f k).bind fun t248 => (some t248)) else ((check_Seal.f k (a0.extract 0 ((ji4) : Int).toNat)).bind fun t249 => (if (wrap64 ((wrap64 ((t249.size : Int) - ((a0.extract 0 ((ji4) : Int).toNat).size : Int))) - 4)) < 1 then (some false) else (if (wrap64 (((a0.extract 0 ((ji4) : Int).toNat).size : Int) + 4)) = 0 then (none) else ((some (([] : List Int) : List Int)).bind fun y250 => (if y250.length + t249.size < 140737488355328 then ((some (y250 ++ bytesOf t249 : List Int)).bind fun y253 => (if 0 ≤ (wrap64 ((wrap64 ((wrap64 ((t249.size : Int) - ((a0.extract 0 ((ji4) : Int).toNat).size : Int))) - 4)) + (Int.tmod (Go.bits .and .i64 a1 65535) (wrap64 (((a0.extract 0 ((ji4) : Int).toNat).size : Int) + 4))))) then (if (wrap64 ((wrap64 ((wrap64 ((t249.size : Int) - ((a0.extract 0 ((ji4) : Int).toNat).size : Int))) - 4)) + (Int.tmod (Go.bits .and .i64 a1 65535) (wrap64 (((a0.extract 0 ((ji4) : Int).toNat).size : Int) + 4))))) < (y253.length : Int) then (if 0 ≤ (Go.bits .and .i64 a2 7) then ((check_Open.f k (strOfNums (y253.set ((wrap64 ((wrap64 ((wrap64 ((t249.size : Int) - ((a0.extract 0 ((ji4) : Int).toNat).size : Int))) - 4)) + (Int.tmod (Go.bits .and .i64 a1 65535) (wrap64 (((a0.extract 0 ((ji4) : Int).toNat).size : Int) + 4))))) : Int).toNat (Go.bits .xor .u8 (rd y253 (wrap64 ((wrap64 ((wrap64 ((t249.size : Int) - ((a0.extract 0 ((ji4) : Int).toNat).size : Int))) - 4)) + (Int.tmod (Go.bits .and .i64 a1 65535) (wrap64 (((a0.extract 0 ((ji4) : Int).toNat).size : Int) + 4)))))) (shl .u8 1 (Go.bits .and .i64 a2 7))))) 0).bind fun bt258 => (if bt258.2.2 = 5 then ((rivuletlaw02_fixed.f k).bind fun t261 => (some t261)) else (some false))) else (none)) else (none)) else (none))) else (none))))))) else (none)) else (none)) = some r := by first | (rw [hji4] at H; exact H) | (simp only [hji4] at H ⊢; exact H)
  (try (have hji4h : ji4 ≤ 300 := by (rw [← hji4]; unfold mn; (repeat' split) <;> omega)))
  (try (have hji4g : ji4 ≤ 64 := by omega))
  (try (have hji4l : 0 ≤ ji4 := by (rw [← hji4]; unfold mn; (repeat' split) <;> omega)))
  (try (have hji4m : 0 ≤ ji4 := by omega))
  have hji4_ : (if 300 < (a0.size : Int) then 300 else (a0.size : Int)) = ji4 := hji4
  obtain ⟨Sji4, hSji4⟩ : ∃ S_ : ByteArray, a0.extract 0 (ji4 : Int).toNat = S_ := ⟨_, rfl⟩
  simp only [hSji4] at H
  by_cases c5 : 0 ≤ (ji4)
  · rw [if_pos c5] at H
    have c5b0 := eq_true c5
    have c5b1 : decide (0 ≤ (ji4)) = true := decide_eq_true c5
    clear c5
    by_cases c6 : (ji4) ≤ (a0.size : Int)
    · rw [if_pos c6] at H
      have c6b0 := eq_true c6
      have c6b1 : decide ((ji4) ≤ (a0.size : Int)) = true := decide_eq_true c6
      clear c6
      by_cases c7 : (Sji4.size : Int) = 0
      · rw [if_pos c7] at H
        have c7b0 : ((Sji4.size : Int) == 0) = true := beq_iff_eq.mpr c7
        have c7b1 : ((Sji4.size : Int) != 0) = false := bne_eq_false_iff_eq.mpr c7
        clear c7
        replace H := Option.bind_eq_some_iff.mp H
        obtain ⟨t248, A80, H⟩ := H
        replace H : (some t248) = some r := H
        have A8 := Aside0.mk A80
        clear A80
        obtain rfl := Option.some.inj H
        go_enter Try.func7, Try.ntmps7
        go_wp2_with (first | ((with_reducible refine gate_callee (f := 17) rfl ?_); refine goesL_ (some 22) rfl rfl Try.func17 (by kernel_rfl) rfl #[] rfl (by (try simp only [List.map_toArray, List.map_cons, List.map_nil]); first | done | rfl | (simp only [List.length_drop, List.length_take]; rfl)) ?_; (with_reducible refine (rivuletlaw02_fixed.calls k  t248 _ A8.out).mono ?_); rintro e w9 ⟨rfl, hb⟩; refine ⟨_, rfl, ?_⟩; have n0_ := Aside0.mk (below_step (by repeat (first | (with_reducible first | exact HB.out | apply below_alloc | apply pw_below_drewN | apply below_drew1) | exact HB.out)) hb); clear HB; have HB := n0_; clear n0_; (try clear hb); (try clear hb2); (try clear hk); (try clear hi)))
        go_ret
        exact ⟨by first | rfl | (simp [errW_none, errW_some] <;> rfl) | (simp only [← hji4]; first | rfl | (simp [errW_none, errW_some] <;> rfl)) | (simp [*, errW_none, errW_some] <;> rfl), by repeat (first | (with_reducible first | exact HB.out | apply below_alloc | apply pw_below_drewN | apply below_drew1) | exact HB.out)⟩
      · rw [if_neg c7] at H
        have c7b0 : ((Sji4.size : Int) == 0) = false := beq_eq_false_iff_ne.mpr c7
        have c7b1 : ((Sji4.size : Int) != 0) = true := bne_iff_ne.mpr c7
        replace H := Option.bind_eq_some_iff.mp H
        obtain ⟨t249, A100, H⟩ := H
        replace H : (if (wrap64 ((wrap64 ((t249.size : Int) - (Sji4.size : Int))) - 4)) < 1 then (some false) else (if (wrap64 ((Sji4.size : Int) + 4)) = 0 then (none) else ((some (([] : List Int) : List Int)).bind fun y250 => (if y250.length + t249.size < 140737488355328 then ((some (y250 ++ bytesOf t249 : List Int)).bind fun y253 => (if 0 ≤ (wrap64 ((wrap64 ((wrap64 ((t249.size : Int) - (Sji4.size : Int))) - 4)) + (Int.tmod (Go.bits .and .i64 a1 65535) (wrap64 ((Sji4.size : Int) + 4))))) then (if (wrap64 ((wrap64 ((wrap64 ((t249.size : Int) - (Sji4.size : Int))) - 4)) + (Int.tmod (Go.bits .and .i64 a1 65535) (wrap64 ((Sji4.size : Int) + 4))))) < (y253.length : Int) then (if 0 ≤ (Go.bits .and .i64 a2 7) then ((check_Open.f k (strOfNums (y253.set ((wrap64 ((wrap64 ((wrap64 ((t249.size : Int) - (Sji4.size : Int))) - 4)) + (Int.tmod (Go.bits .and .i64 a1 65535) (wrap64 ((Sji4.size : Int) + 4))))) : Int).toNat (Go.bits .xor .u8 (rd y253 (wrap64 ((wrap64 ((wrap64 ((t249.size : Int) - (Sji4.size : Int))) - 4)) + (Int.tmod (Go.bits .and .i64 a1 65535) (wrap64 ((Sji4.size : Int) + 4)))))) (shl .u8 1 (Go.bits .and .i64 a2 7))))) 0).bind fun bt258 => (if bt258.2.2 = 5 then ((rivuletlaw02_fixed.f k).bind fun t261 => (some t261)) else (some false))) else (none)) else (none)) else (none))) else (none))))) = some r := H
        have A10 := Aside0.mk A100
        clear A100
        by_cases c11 : (wrap64 ((wrap64 ((t249.size : Int) - (Sji4.size : Int))) - 4)) < 1
        · rw [if_pos c11] at H
          have c11b0 : decide ((wrap64 ((wrap64 ((t249.size : Int) - (Sji4.size : Int))) - 4)) < 1) = true := decide_eq_true c11
          clear c11
          obtain rfl := Option.some.inj H
          go_enter Try.func7, Try.ntmps7
          go_wp2_with (first | ((with_reducible refine gate_callee (f := 15) rfl ?_); refine goesL_ (some 24) rfl rfl Try.func15 (by kernel_rfl) rfl #[.string Sji4] rfl (by (try simp only [List.map_toArray, List.map_cons, List.map_nil]); first | done | (simp only [hji4]; rfl) | rfl | (simp only [List.length_drop, List.length_take]; rfl)) ?_; (with_reducible refine (check_Seal.calls k Sji4 t249 _ A10.out).mono ?_); rintro e w12 ⟨rfl, hb⟩; refine ⟨_, rfl, ?_⟩; have n0_ := Aside0.mk (below_step (by repeat (first | (with_reducible first | exact HB.out | apply below_alloc | apply pw_below_drewN | apply below_drew1) | exact HB.out)) hb); clear HB; have HB := n0_; clear n0_; (try clear hb); (try clear hb2); (try clear hk); (try clear hi)))
          go_ret
          exact ⟨by first | rfl | (simp [errW_none, errW_some] <;> rfl) | (simp only [← hji4]; first | rfl | (simp [errW_none, errW_some] <;> rfl)) | (simp [*, errW_none, errW_some] <;> rfl), by repeat (first | (with_reducible first | exact HB.out | apply below_alloc | apply pw_below_drewN | apply below_drew1) | exact HB.out)⟩
        · rw [if_neg c11] at H
          have c11b0 : decide ((wrap64 ((wrap64 ((t249.size : Int) - (Sji4.size : Int))) - 4)) < 1) = false := decide_eq_false c11
          clear c11
          by_cases c13 : (wrap64 ((Sji4.size : Int) + 4)) = 0
          · rw [if_pos c13] at H
            exact absurd H (by simp)
          · rw [if_neg c13] at H
            have c13b0 : ((wrap64 ((Sji4.size : Int) + 4)) == 0) = false := beq_eq_false_iff_ne.mpr c13
            have c13b1 : ((wrap64 ((Sji4.size : Int) + 4)) != 0) = true := bne_iff_ne.mpr c13
            obtain ⟨y250, hy250⟩ : ∃ y_ : List Int, y_ = (([] : List Int)) := ⟨_, rfl⟩
            replace H : (if y250.length + t249.size < 140737488355328 then ((some (y250 ++ bytesOf t249 : List Int)).bind fun y253 => (if 0 ≤ (wrap64 ((wrap64 ((wrap64 ((t249.size : Int) - (Sji4.size : Int))) - 4)) + (Int.tmod (Go.bits .and .i64 a1 65535) (wrap64 ((Sji4.size : Int) + 4))))) then (if (wrap64 ((wrap64 ((wrap64 ((t249.size : Int) - (Sji4.size : Int))) - 4)) + (Int.tmod (Go.bits .and .i64 a1 65535) (wrap64 ((Sji4.size : Int) + 4))))) < (y253.length : Int) then (if 0 ≤ (Go.bits .and .i64 a2 7) then ((check_Open.f k (strOfNums (y253.set ((wrap64 ((wrap64 ((wrap64 ((t249.size : Int) - (Sji4.size : Int))) - 4)) + (Int.tmod (Go.bits .and .i64 a1 65535) (wrap64 ((Sji4.size : Int) + 4))))) : Int).toNat (Go.bits .xor .u8 (rd y253 (wrap64 ((wrap64 ((wrap64 ((t249.size : Int) - (Sji4.size : Int))) - 4)) + (Int.tmod (Go.bits .and .i64 a1 65535) (wrap64 ((Sji4.size : Int) + 4)))))) (shl .u8 1 (Go.bits .and .i64 a2 7))))) 0).bind fun bt258 => (if bt258.2.2 = 5 then ((rivuletlaw02_fixed.f k).bind fun t261 => (some t261)) else (some false))) else (none)) else (none)) else (none))) else (none)) = some r := by first | (rw [hy250]; with_reducible exact H) | (have H2_ := (Option.bind_some _ _).symm.trans H; rw [hy250]; with_reducible exact H2_) | (have H2_ := (Option.bind_some _ _).symm.trans H; with_reducible exact H2_) | with_reducible exact H | (rw [hy250]; exact H) | exact H
            have Ny250 := Aside0.mk hy250
            clear hy250
            by_cases c14 : y250.length + t249.size < 140737488355328
            · rw [if_pos c14] at H
              have LMc14 := Aside0.mk c14
              clear c14
              obtain ⟨y253, hy253⟩ : ∃ y_ : List Int, y_ = (y250 ++ bytesOf t249) := ⟨_, rfl⟩
              replace H : (if 0 ≤ (wrap64 ((wrap64 ((wrap64 ((t249.size : Int) - (Sji4.size : Int))) - 4)) + (Int.tmod (Go.bits .and .i64 a1 65535) (wrap64 ((Sji4.size : Int) + 4))))) then (if (wrap64 ((wrap64 ((wrap64 ((t249.size : Int) - (Sji4.size : Int))) - 4)) + (Int.tmod (Go.bits .and .i64 a1 65535) (wrap64 ((Sji4.size : Int) + 4))))) < (y253.length : Int) then (if 0 ≤ (Go.bits .and .i64 a2 7) then ((check_Open.f k (strOfNums (y253.set ((wrap64 ((wrap64 ((wrap64 ((t249.size : Int) - (Sji4.size : Int))) - 4)) + (Int.tmod (Go.bits .and .i64 a1 65535) (wrap64 ((Sji4.size : Int) + 4))))) : Int).toNat (Go.bits .xor .u8 (rd y253 (wrap64 ((wrap64 ((wrap64 ((t249.size : Int) - (Sji4.size : Int))) - 4)) + (Int.tmod (Go.bits .and .i64 a1 65535) (wrap64 ((Sji4.size : Int) + 4)))))) (shl .u8 1 (Go.bits .and .i64 a2 7))))) 0).bind fun bt258 => (if bt258.2.2 = 5 then ((rivuletlaw02_fixed.f k).bind fun t261 => (some t261)) else (some false))) else (none)) else (none)) else (none)) = some r := by first | (rw [hy253]; with_reducible exact H) | (have H2_ := (Option.bind_some _ _).symm.trans H; rw [hy253]; with_reducible exact H2_) | (have H2_ := (Option.bind_some _ _).symm.trans H; with_reducible exact H2_) | with_reducible exact H | (rw [hy253]; exact H) | exact H
              have Ny253 := Aside0.mk hy253
              clear hy253
              obtain ⟨ji15, hji15⟩ : ∃ j_ : Int, (wrap64 ((wrap64 ((wrap64 ((t249.size : Int) - (Sji4.size : Int))) - 4)) + (Int.tmod (Go.bits .and .i64 a1 65535) (wrap64 ((Sji4.size : Int) + 4))))) = j_ := ⟨_, rfl⟩
              replace H : (if 0 ≤ (ji15) then (if (ji15) < (y253.length : Int) then (if 0 ≤ (Go.bits .and .i64 a2 7) then ((check_Open.f k (strOfNums (y253.set ((ji15) : Int).toNat (Go.bits .xor .u8 (rd y253 (ji15)) (shl .u8 1 (Go.bits .and .i64 a2 7))))) 0).bind fun bt258 => (if bt258.2.2 = 5 then ((rivuletlaw02_fixed.f k).bind fun t261 => (some t261)) else (some false))) else (none)) else (none)) else (none)) = some r := by first | (rw [hji15] at H; exact H) | (simp only [hji15] at H ⊢; exact H)
              (try rw [hji15] at A10)
              have hji15w : (IntKind.i64.wrap ((wrap64 ((wrap64 ((t249.size : Int) - (Sji4.size : Int))) - 4)) + (Int.tmod (Go.bits .and .i64 a1 65535) (wrap64 ((Sji4.size : Int) + 4))))) = ji15 := (i64_w _).trans hji15
              by_cases c16 : 0 ≤ (ji15)
              · rw [if_pos c16] at H
                have c16b0 : decide (0 ≤ (ji15)) = true := decide_eq_true c16
                clear c16
                by_cases c17 : (ji15) < (y253.length : Int)
                · rw [if_pos c17] at H
                  have c17b0 : decide ((ji15) < (y253.length : Int)) = true := decide_eq_true c17
                  clear c17
                  by_cases c18 : 0 ≤ (Go.bits .and .i64 a2 7)
                  · rw [if_pos c18] at H
                    have c18b0 := eq_true c18
                    have c18b1 : decide (0 ≤ (Go.bits .and .i64 a2 7)) = true := decide_eq_true c18
                    clear c18
                    obtain ⟨ji19, hji19⟩ : ∃ j_ : Int, (shl .u8 1 (Go.bits .and .i64 a2 7)) = j_ := ⟨_, rfl⟩
                    replace H : ((check_Open.f k (strOfNums (y253.set ((ji15) : Int).toNat (Go.bits .xor .u8 (rd y253 (ji15)) (ji19)))) 0).bind fun bt258 => (if bt258.2.2 = 5 then ((rivuletlaw02_fixed.f k).bind fun t261 => (some t261)) else (some false))) = some r := by first | (rw [hji19] at H; exact H) | (simp only [hji19] at H ⊢; exact H)
                    (try rw [hji19] at A10)
                    have hji19_ : (IntKind.u8.wrap (1 * 2 ^ min (Go.bits .and .i64 a2 7).toNat 8)) = ji19 := hji19
                    have hji19z : (Go.bits .and .i64 a2 7) ≤ 8 → (IntKind.u8.wrap (1 * 2 ^ (Go.bits .and .i64 a2 7).toNat)) = ji19 := shl_small hji19
                    have hji19u : (IntKind.u8.wrap (2 ^ min (Go.bits .and .i64 a2 7).toNat 8)) = ji19 := by have h_ := hji19_; rw [Int.one_mul] at h_; exact h_
                    have hji19v : (Go.bits .and .i64 a2 7) ≤ 8 → (IntKind.u8.wrap (2 ^ (Go.bits .and .i64 a2 7).toNat)) = ji19 := fun hle_ => by have h_ := hji19z hle_; rw [Int.one_mul] at h_; exact h_
                    obtain ⟨y257, hy257⟩ : ∃ y_ : List Int, y_ = (y253.set ((ji15) : Int).toNat (Go.bits .xor .u8 (rd y253 (ji15)) (ji19))) := ⟨_, rfl⟩
                    replace H : ((check_Open.f k (strOfNums y257) 0).bind fun bt258 => (if bt258.2.2 = 5 then ((rivuletlaw02_fixed.f k).bind fun t261 => (some t261)) else (some false))) = some r := by first | (rw [hy257]; with_reducible exact H) | (have H2_ := (Option.bind_some _ _).symm.trans H; rw [hy257]; with_reducible exact H2_) | (have H2_ := (Option.bind_some _ _).symm.trans H; with_reducible exact H2_) | with_reducible exact H | (rw [hy257]; exact H) | exact H
                    have Ny257 := Aside0.mk hy257
                    clear hy257
                    replace H := Option.bind_eq_some_iff.mp H
                    obtain ⟨⟨t258, t259, t260⟩, A210, H⟩ := H
                    replace H : (if t260 = 5 then ((rivuletlaw02_fixed.f k).bind fun t261 => (some t261)) else (some false)) = some r := H
                    have A21 := Aside0.mk A210
                    clear A210
                    by_cases c22 : t260 = 5
                    · rw [if_pos c22] at H
                      have c22b0 : (t260 == 5) = true := beq_iff_eq.mpr c22
                      have c22b1 : (t260 != 5) = false := bne_eq_false_iff_eq.mpr c22
                      clear c22
                      replace H := Option.bind_eq_some_iff.mp H
                      obtain ⟨t261, A230, H⟩ := H
                      replace H : (some t261) = some r := H
                      have A23 := Aside0.mk A230
                      clear A230
                      obtain rfl := Option.some.inj H
                      go_enter Try.func7, Try.ntmps7
                      try go_wp2_with (first | ((with_reducible refine gate_callee (f := 15) rfl ?_); refine goesL_ (some 24) rfl rfl Try.func15 (by kernel_rfl) rfl #[.string Sji4] rfl (by (try simp only [List.map_toArray, List.map_cons, List.map_nil]); first | done | (simp only [hji4]; rfl) | rfl | (simp only [List.length_drop, List.length_take]; rfl)) ?_; (with_reducible refine (check_Seal.calls k Sji4 t249 _ A10.out).mono ?_); rintro e w24 ⟨rfl, hb⟩; refine ⟨_, rfl, ?_⟩; have n0_ := Aside0.mk (below_step (by repeat (first | (with_reducible first | exact HB.out | apply below_alloc | apply pw_below_drewN | apply below_drew1) | exact HB.out)) hb); clear HB; have HB := n0_; clear n0_; (try clear hb); (try clear hb2); (try clear hk); (try clear hi)) | ((with_reducible refine gate_dst (N := 41) rfl ?_); refine Kd.R_lit (Kd.int .u8) _ 5 ?hg (N := 41) ?hd (xs := ([] : List Int)) (inner := []) (ok := fun _ => True) (okp := fun _ => True) ?hr ?hp (fun _ hk => hk) trivial (Below.refl _ _) (Nat.le_refl _) (by simp) ?_; (case hd => rfl); (case hg => rfl); (case hr => first | (go_simp; done) | (go_simp; rfl)); (case hp => exact (Reps.none _ _)); intro v251 w25 ho26 hb hg_ hnew_; clear hg_ hnew_; (first | rw [← Ny250.out] at ho26 | (simp only [Int.reduceToNat] at ho26; rw [← Ny250.out] at ho26)); have n0_ := Aside0.mk (Kd.R_lower ho26 (below_size (by repeat (first | (with_reducible first | exact HB.out | apply below_alloc | apply pw_below_drewN | apply below_drew1) | exact HB.out)))); have n1_ := Aside0.mk (below_step (by repeat (first | (with_reducible first | exact HB.out | apply below_alloc | apply pw_below_drewN | apply below_drew1) | exact HB.out)) hb); clear HB; have HO252 := n0_; have HB := n1_; clear n0_ n1_; clear hb ho26) | (at_builtin; refine print_append_str (w0 := w) w.heap.size rfl (.tmp 41) _ 38 9 5 rfl Try.underlying38 Try.underlying9 info5 v251 y250 t249 rfl rfl ?aO ?aB ?aS ?aL ?_; (case aB => exact (by repeat (first | (with_reducible first | exact HB.out | apply below_alloc | apply pw_below_drewN | apply below_drew1) | exact HB.out))); (case aO => exact (Kd.own_of_R (by (with_reducible repeat (first | apply Kd.R_alloc | apply Kd.R_drewN | apply Kd.R_drew)); exact HO252.out))); (case aS => exact (below_size (by repeat (first | (with_reducible first | exact HB.out | apply below_alloc | apply pw_below_drewN | apply below_drew1) | exact HB.out)))); (case aL => have := LMc14.out; omega); intro v254 w27 ho0 hb hg; have ho := Kd.R_of_own (h1 := fun _ => rfl) (ok := fun _ => True) ho0 (fun _ _ => trivial); clear ho0; have hat := True.intro; rw [← Ny253.out] at ho; change Kd.R (Kd.int .u8) 5 w27 w.heap.size (fun _ => True) v254 y253 at ho; have n0_ := Aside0.mk (hb); have n1_ := Aside0.mk (ho); clear HB; clear HO252; have HB := n0_; have HO255 := n1_; clear n0_ n1_; clear ho hb hg hat))
                      have n0_ := Aside0.mk (Kd.R_drew HO255.out)
                      have n1_ := Aside0.mk (below_drew1 HB.out)
                      clear HO255
                      clear HB
                      have HO255 := n0_
                      have HB := n1_
                      clear n0_ n1_
                      obtain ⟨Ao29, co29, eo29⟩ := Kd.R_slice HO255.out
                      (first | subst eo29 | (injection eo29 with f1_ f2_ f3_; have f4_ := f1_.symm; have f5_ := f3_.symm; clear f1_ f2_ f3_; subst f4_; subst f5_))
                      have p256 : 0 ≤ ((ji15) : Int) := of_decide_eq_true (by first | (with_reducible assumption) | assumption)
                      have q256 : (ji15) < (y253.length : Int) := of_decide_eq_true (by first | (with_reducible assumption) | assumption)
                      obtain ⟨ad256, e256, hx256_0⟩ := Kd.at_int (Kd.R_reads' HO255.out).2.2 (ji15) p256 q256
                      cases e256
                      replace p256 := eq_true p256
                      replace q256 := eq_true q256
                      have p20 : 0 ≤ ((ji15) : Int) := of_decide_eq_true (by first | (with_reducible assumption) | assumption)
                      have q20 : ((ji15) : Int) < ((y253.length : Int) : Int) := of_decide_eq_true (by first | (with_reducible assumption) | assumption)
                      obtain ⟨go20, co20, eo20, gb20, gl20, cl20, HG20⟩ := Kd.R_form HO255.out (by omega)
                      (first | cases eo20 | (injection eo20 with ea_ en_ ec_; (first | subst ea_ | (injection ea_ with ea_; subst ea_)); subst ec_; clear en_))
                      have GB20 := Aside0.mk gb20
                      have GG20 := Aside0.mk HG20
                      clear gb20 gl20 HG20
                      (first | simp only [add_plain] at hx256_0 | skip)
                      obtain ⟨hx20_0, hf20_0⟩ := Kd.R_celln 0 HO255.out ((ji15) : Int) p20 q20
                      replace p20 := eq_true p20
                      replace q20 := eq_true q20
                      have HP30 := Kd.R_putn HO255.out ((ji15) : Int) (Go.bits .xor .u8 (rd y253 (ji15)) (ji19))
                      rw [← Ny257.out] at HP30
                      have HQ30 := Aside0.mk HP30
                      clear HP30
                      refine start_ (n := 12) (S := fun w' => w'.cell? ⟨go20, ((ji15)).toNat, none⟩ = some (.int .u8 (rd y253 (ji15)))) (ds := [11]) #[false, false, false, false, false, false, false, false, false, false, false, false] (by kernel_rfl) rfl rfl (hx256_0) (fun hHeld => ?_); refine with_tabW rivuletlaw02_CheckBits.tab10 rivuletlaw02_CheckBits.bits10 (fun HT_ HW_ => ?_)
                      generalize w27.drew = w28 at HO255 HB GG20 HQ30 hf20_0 hx20_0 hx256_0 hHeld ⊢
                      refine pure_ (i := 0) (N := some 44) (v := ?_) (a' := ?_) #[true, false, false, false, false, false, false, false, false, false, false, false] rfl rfl (any_of HT_.out (by kernel_rfl)) (fun _ _ _ h => h) (Or.inl ⟨by rfl, ?_⟩) ?_ ?_
                      rotate_left
                      · intro w'
                        go_simp
                        with_reducible rfl
                      rotate_left
                      · simp only [Act.put, List.setIfInBounds_toArray, List.set_cons_zero, List.set_cons_succ, i64_w, i32_w]
                        rfl
                      refine pure_ (i := 1) (N := some 45) (v := ?_) (a' := ?_) #[true, true, false, false, false, false, false, false, false, false, false, false] rfl rfl (any_of HT_.out (by kernel_rfl)) (fun _ _ _ h => h) (Or.inl ⟨by rfl, ?_⟩) ?_ ?_
                      rotate_left
                      · intro w'
                        go_simp
                        with_reducible rfl
                      rotate_left
                      · simp only [Act.put, List.setIfInBounds_toArray, List.set_cons_zero, List.set_cons_succ, i64_w, i32_w]
                        rfl
                      refine pure_ (i := 2) (N := some 46) (v := ?_) (a' := ?_) #[true, true, true, false, false, false, false, false, false, false, false, false] rfl rfl (any_of HT_.out (by kernel_rfl)) (fun _ _ _ h => h) (Or.inl ⟨by rfl, ?_⟩) ?_ ?_
                      rotate_left
                      · intro w'
                        go_simp
                        with_reducible rfl
                      rotate_left
                      · simp only [Act.put, List.setIfInBounds_toArray, List.set_cons_zero, List.set_cons_succ, i64_w, i32_w]
                        rfl
                      refine pure_ (i := 3) (N := some 47) (v := ?_) (a' := ?_) #[true, true, true, true, false, false, false, false, false, false, false, false] rfl rfl (any_of HT_.out (by kernel_rfl)) (fun _ _ _ h => h) (Or.inl ⟨by rfl, ?_⟩) ?_ ?_
                      rotate_left
                      · intro w'
                        go_simp
                        with_reducible rfl
                      rotate_left
                      · simp only [Act.put, List.setIfInBounds_toArray, List.set_cons_zero, List.set_cons_succ, i64_w, i32_w]
                        rfl
                      refine pure_ (i := 4) (N := some 48) (v := ?_) (a' := ?_) #[true, true, true, true, true, false, false, false, false, false, false, false] rfl rfl (any_of HT_.out (by kernel_rfl)) (fun _ _ _ h => h) (Or.inl ⟨by rfl, ?_⟩) ?_ ?_
                      rotate_left
                      · intro w'
                        go_simp
                        with_reducible rfl
                      rotate_left
                      · simp only [Act.put, List.setIfInBounds_toArray, List.set_cons_zero, List.set_cons_succ, i64_w, i32_w]
                        rfl
                      refine pure_ (i := 6) (N := some 50) (v := ?_) (a' := ?_) #[true, true, true, true, true, false, true, false, false, false, false, false] rfl rfl (any_of HT_.out (by kernel_rfl)) (fun _ _ _ h => h) (Or.inl ⟨by rfl, ?_⟩) ?_ ?_
                      rotate_left
                      · intro w'
                        go_simp
                        with_reducible rfl
                      rotate_left
                      · simp only [Act.put, List.setIfInBounds_toArray, List.set_cons_zero, List.set_cons_succ, i64_w, i32_w]
                        rfl
                      refine pure_ (i := 7) (N := some 51) (v := ?_) (a' := ?_) #[true, true, true, true, true, false, true, true, false, false, false, false] rfl rfl (any_of HT_.out (by kernel_rfl)) (fun _ _ _ h => h) (Or.inl ⟨by rfl, ?_⟩) ?_ ?_
                      rotate_left
                      · intro w'
                        go_simp
                        with_reducible rfl
                      rotate_left
                      · simp only [Act.put, List.setIfInBounds_toArray, List.set_cons_zero, List.set_cons_succ, i64_w, i32_w]
                        rfl
                      refine pure_ (i := 8) (N := some 52) (v := ?_) (a' := ?_) #[true, true, true, true, true, false, true, true, true, false, false, false] rfl rfl (any_of HT_.out (by kernel_rfl)) (fun _ _ _ h => h) (Or.inl ⟨by rfl, ?_⟩) ?_ ?_
                      rotate_left
                      · intro w'
                        go_simp
                        with_reducible rfl
                      rotate_left
                      · simp only [Act.put, List.setIfInBounds_toArray, List.set_cons_zero, List.set_cons_succ, i64_w, i32_w]
                        rfl
                      refine take_ (i := 5) (N := some 49) (v := ?_) (a' := ?_) #[true, true, true, true, true, true, true, true, true, false, false, false] rfl rfl (take_ofW HT_.out HW_.out (by kernel_rfl)) (fun _ _ _ h => h) (Or.inl ⟨by rfl, ?_⟩) hHeld ?_ ?_
                      rotate_left
                      · intro w' s0
                        go_simp
                        with_reducible rfl
                      rotate_left
                      · simp only [Act.put, List.setIfInBounds_toArray, List.set_cons_zero, List.set_cons_succ, i64_w, i32_w]
                        rfl
                      refine pure_ (i := 9) (N := some 53) (v := ?_) (a' := ?_) #[true, true, true, true, true, true, true, true, true, true, false, false] rfl rfl (any_of HT_.out (by kernel_rfl)) (fun _ _ _ h => h) (Or.inl ⟨by rfl, ?_⟩) ?_ ?_
                      rotate_left
                      · intro w'
                        go_simp
                        with_reducible rfl
                      rotate_left
                      · simp only [Act.put, List.setIfInBounds_toArray, List.set_cons_zero, List.set_cons_succ, i64_w, i32_w]
                        rfl
                      refine pure_ (i := 10) (N := some 54) (v := ?_) (a' := ?_) #[true, true, true, true, true, true, true, true, true, true, true, false] rfl rfl (any_of HT_.out (by kernel_rfl)) (fun _ _ _ h => h) (Or.inl ⟨by rfl, ?_⟩) ?_ ?_
                      rotate_left
                      · intro w'
                        go_simp
                        with_reducible rfl
                      rotate_left
                      · simp only [Act.put, List.setIfInBounds_toArray, List.set_cons_zero, List.set_cons_succ, i64_w, i32_w]
                        rfl
                      refine last_ (i := 11) (N := none) #[true, true, true, true, true, true, true, true, true, true, true, true] rfl rfl (one_of HT_.out (by kernel_rfl)) (by decide) (fun K hK => ?_)
                      refine skip_ (w1 := ?_) (by rfl) rfl ?_ ?_
                      rotate_left
                      · go_simp
                        rfl
                      refine hK.out _ _ ?_
                      clear hK K
                      refine done_ (done_of HT_.out (by kernel_rfl)) ?_
                      have hcv31 := own_string (P := Try.prog) Try.underlying38 Try.underlying5 Try.underlying9 (Kd.own_of_R HQ30.out)
                      try go_wp2_with (first | ((with_reducible refine gate_callee (f := 18) rfl ?_); refine goesL_ (some 58) rfl rfl Try.func18 (by kernel_rfl) rfl #[.string (strOfNums y257), .int .i64 0] rfl (by (try simp only [List.map_toArray, List.map_cons, List.map_nil]); first | done | rfl | (simp only [List.length_drop, List.length_take]; rfl)) ?_; (with_reducible refine (check_Open.calls k (strOfNums y257) 0 t258 t259 t260 _ A21.out).mono ?_); rintro e w32 ⟨rfl, hb⟩; refine ⟨_, rfl, ?_⟩; have n0_ := Aside0.mk (Kd.R_below (by (with_reducible repeat (first | apply Kd.R_alloc | apply Kd.R_drewN | apply Kd.R_drew)); exact HQ30.out) hb); have n1_ := Aside0.mk (below_step (by repeat (first | (with_reducible first | exact HB.out | apply below_alloc | apply pw_below_drewN | apply below_drew1 | refine below_set ?_ GB20.out) | exact HB.out)) hb); clear HO255; clear HB; have HO255 := n0_; have HB := n1_; clear n0_ n1_; (try clear hb); (try clear hb2); (try clear hk); (try clear hi)) | (go_at_call 17; (with_reducible refine (rivuletlaw02_fixed.calls k  t261 _ A23.out).mono ?_); rintro e w33 ⟨rfl, hb⟩; have n0_ := Aside0.mk (Kd.R_below (by (with_reducible repeat (first | apply Kd.R_alloc | apply Kd.R_drewN | apply Kd.R_drew)); exact HO255.out) hb); have n1_ := Aside0.mk (below_step (by repeat (first | (with_reducible first | exact HB.out | apply below_alloc | apply pw_below_drewN | apply below_drew1) | exact HB.out)) hb); clear HO255; clear HB; have HO255 := n0_; have HB := n1_; clear n0_ n1_; (try clear hb); (try clear hb2); (try clear hk); (try clear hi)))
                      go_ret
                      exact ⟨by first | rfl | (simp [errW_none, errW_some] <;> rfl) | (simp only [← hji4, ← hji15, ← hji19]; first | rfl | (simp [errW_none, errW_some] <;> rfl)) | (simp [*, errW_none, errW_some] <;> rfl), by repeat (first | (with_reducible first | exact HB.out | apply below_alloc | apply pw_below_drewN | apply below_drew1) | exact HB.out)⟩
                    · rw [if_neg c22] at H
                      have c22b0 : (t260 == 5) = false := beq_eq_false_iff_ne.mpr c22
                      have c22b1 : (t260 != 5) = true := bne_iff_ne.mpr c22
                      obtain rfl := Option.some.inj H
                      go_enter Try.func7, Try.ntmps7
                      try go_wp2_with (first | ((with_reducible refine gate_callee (f := 15) rfl ?_); refine goesL_ (some 24) rfl rfl Try.func15 (by kernel_rfl) rfl #[.string Sji4] rfl (by (try simp only [List.map_toArray, List.map_cons, List.map_nil]); first | done | (simp only [hji4]; rfl) | rfl | (simp only [List.length_drop, List.length_take]; rfl)) ?_; (with_reducible refine (check_Seal.calls k Sji4 t249 _ A10.out).mono ?_); rintro e w34 ⟨rfl, hb⟩; refine ⟨_, rfl, ?_⟩; have n0_ := Aside0.mk (below_step (by repeat (first | (with_reducible first | exact HB.out | apply below_alloc | apply pw_below_drewN | apply below_drew1) | exact HB.out)) hb); clear HB; have HB := n0_; clear n0_; (try clear hb); (try clear hb2); (try clear hk); (try clear hi)) | ((with_reducible refine gate_dst (N := 41) rfl ?_); refine Kd.R_lit (Kd.int .u8) _ 5 ?hg (N := 41) ?hd (xs := ([] : List Int)) (inner := []) (ok := fun _ => True) (okp := fun _ => True) ?hr ?hp (fun _ hk => hk) trivial (Below.refl _ _) (Nat.le_refl _) (by simp) ?_; (case hd => rfl); (case hg => rfl); (case hr => first | (go_simp; done) | (go_simp; rfl)); (case hp => exact (Reps.none _ _)); intro v251 w35 ho36 hb hg_ hnew_; clear hg_ hnew_; (first | rw [← Ny250.out] at ho36 | (simp only [Int.reduceToNat] at ho36; rw [← Ny250.out] at ho36)); have n0_ := Aside0.mk (Kd.R_lower ho36 (below_size (by repeat (first | (with_reducible first | exact HB.out | apply below_alloc | apply pw_below_drewN | apply below_drew1) | exact HB.out)))); have n1_ := Aside0.mk (below_step (by repeat (first | (with_reducible first | exact HB.out | apply below_alloc | apply pw_below_drewN | apply below_drew1) | exact HB.out)) hb); clear HB; have HO252 := n0_; have HB := n1_; clear n0_ n1_; clear hb ho36) | (at_builtin; refine print_append_str (w0 := w) w.heap.size rfl (.tmp 41) _ 38 9 5 rfl Try.underlying38 Try.underlying9 info5 v251 y250 t249 rfl rfl ?aO ?aB ?aS ?aL ?_; (case aB => exact (by repeat (first | (with_reducible first | exact HB.out | apply below_alloc | apply pw_below_drewN | apply below_drew1) | exact HB.out))); (case aO => exact (Kd.own_of_R (by (with_reducible repeat (first | apply Kd.R_alloc | apply Kd.R_drewN | apply Kd.R_drew)); exact HO252.out))); (case aS => exact (below_size (by repeat (first | (with_reducible first | exact HB.out | apply below_alloc | apply pw_below_drewN | apply below_drew1) | exact HB.out)))); (case aL => have := LMc14.out; omega); intro v254 w37 ho0 hb hg; have ho := Kd.R_of_own (h1 := fun _ => rfl) (ok := fun _ => True) ho0 (fun _ _ => trivial); clear ho0; have hat := True.intro; rw [← Ny253.out] at ho; change Kd.R (Kd.int .u8) 5 w37 w.heap.size (fun _ => True) v254 y253 at ho; have n0_ := Aside0.mk (hb); have n1_ := Aside0.mk (ho); clear HB; clear HO252; have HB := n0_; have HO255 := n1_; clear n0_ n1_; clear ho hb hg hat))
                      have n0_ := Aside0.mk (Kd.R_drew HO255.out)
                      have n1_ := Aside0.mk (below_drew1 HB.out)
                      clear HO255
                      clear HB
                      have HO255 := n0_
                      have HB := n1_
                      clear n0_ n1_
                      obtain ⟨Ao39, co39, eo39⟩ := Kd.R_slice HO255.out
                      (first | subst eo39 | (injection eo39 with f1_ f2_ f3_; have f4_ := f1_.symm; have f5_ := f3_.symm; clear f1_ f2_ f3_; subst f4_; subst f5_))
                      have p256 : 0 ≤ ((ji15) : Int) := of_decide_eq_true (by first | (with_reducible assumption) | assumption)
                      have q256 : (ji15) < (y253.length : Int) := of_decide_eq_true (by first | (with_reducible assumption) | assumption)
                      obtain ⟨ad256, e256, hx256_0⟩ := Kd.at_int (Kd.R_reads' HO255.out).2.2 (ji15) p256 q256
                      cases e256
                      replace p256 := eq_true p256
                      replace q256 := eq_true q256
                      have p20 : 0 ≤ ((ji15) : Int) := of_decide_eq_true (by first | (with_reducible assumption) | assumption)
                      have q20 : ((ji15) : Int) < ((y253.length : Int) : Int) := of_decide_eq_true (by first | (with_reducible assumption) | assumption)
                      obtain ⟨go20, co20, eo20, gb20, gl20, cl20, HG20⟩ := Kd.R_form HO255.out (by omega)
                      (first | cases eo20 | (injection eo20 with ea_ en_ ec_; (first | subst ea_ | (injection ea_ with ea_; subst ea_)); subst ec_; clear en_))
                      have GB20 := Aside0.mk gb20
                      have GG20 := Aside0.mk HG20
                      clear gb20 gl20 HG20
                      (first | simp only [add_plain] at hx256_0 | skip)
                      obtain ⟨hx20_0, hf20_0⟩ := Kd.R_celln 0 HO255.out ((ji15) : Int) p20 q20
                      replace p20 := eq_true p20
                      replace q20 := eq_true q20
                      have HP40 := Kd.R_putn HO255.out ((ji15) : Int) (Go.bits .xor .u8 (rd y253 (ji15)) (ji19))
                      rw [← Ny257.out] at HP40
                      have HQ40 := Aside0.mk HP40
                      clear HP40
                      refine start_ (n := 12) (S := fun w' => w'.cell? ⟨go20, ((ji15)).toNat, none⟩ = some (.int .u8 (rd y253 (ji15)))) (ds := [11]) #[false, false, false, false, false, false, false, false, false, false, false, false] (by kernel_rfl) rfl rfl (hx256_0) (fun hHeld => ?_); refine with_tabW rivuletlaw02_CheckBits.tab10 rivuletlaw02_CheckBits.bits10 (fun HT_ HW_ => ?_)
                      generalize w37.drew = w38 at HO255 HB GG20 HQ40 hf20_0 hx20_0 hx256_0 hHeld ⊢
                      refine pure_ (i := 0) (N := some 44) (v := ?_) (a' := ?_) #[true, false, false, false, false, false, false, false, false, false, false, false] rfl rfl (any_of HT_.out (by kernel_rfl)) (fun _ _ _ h => h) (Or.inl ⟨by rfl, ?_⟩) ?_ ?_
                      rotate_left
                      · intro w'
                        go_simp
                        with_reducible rfl
                      rotate_left
                      · simp only [Act.put, List.setIfInBounds_toArray, List.set_cons_zero, List.set_cons_succ, i64_w, i32_w]
                        rfl
                      refine pure_ (i := 1) (N := some 45) (v := ?_) (a' := ?_) #[true, true, false, false, false, false, false, false, false, false, false, false] rfl rfl (any_of HT_.out (by kernel_rfl)) (fun _ _ _ h => h) (Or.inl ⟨by rfl, ?_⟩) ?_ ?_
                      rotate_left
                      · intro w'
                        go_simp
                        with_reducible rfl
                      rotate_left
                      · simp only [Act.put, List.setIfInBounds_toArray, List.set_cons_zero, List.set_cons_succ, i64_w, i32_w]
                        rfl
                      refine pure_ (i := 2) (N := some 46) (v := ?_) (a' := ?_) #[true, true, true, false, false, false, false, false, false, false, false, false] rfl rfl (any_of HT_.out (by kernel_rfl)) (fun _ _ _ h => h) (Or.inl ⟨by rfl, ?_⟩) ?_ ?_
                      rotate_left
                      · intro w'
                        go_simp
                        with_reducible rfl
                      rotate_left
                      · simp only [Act.put, List.setIfInBounds_toArray, List.set_cons_zero, List.set_cons_succ, i64_w, i32_w]
                        rfl
                      refine pure_ (i := 3) (N := some 47) (v := ?_) (a' := ?_) #[true, true, true, true, false, false, false, false, false, false, false, false] rfl rfl (any_of HT_.out (by kernel_rfl)) (fun _ _ _ h => h) (Or.inl ⟨by rfl, ?_⟩) ?_ ?_
                      rotate_left
                      · intro w'
                        go_simp
                        with_reducible rfl
                      rotate_left
                      · simp only [Act.put, List.setIfInBounds_toArray, List.set_cons_zero, List.set_cons_succ, i64_w, i32_w]
                        rfl
                      refine pure_ (i := 4) (N := some 48) (v := ?_) (a' := ?_) #[true, true, true, true, true, false, false, false, false, false, false, false] rfl rfl (any_of HT_.out (by kernel_rfl)) (fun _ _ _ h => h) (Or.inl ⟨by rfl, ?_⟩) ?_ ?_
                      rotate_left
                      · intro w'
                        go_simp
                        with_reducible rfl
                      rotate_left
                      · simp only [Act.put, List.setIfInBounds_toArray, List.set_cons_zero, List.set_cons_succ, i64_w, i32_w]
                        rfl
                      refine pure_ (i := 6) (N := some 50) (v := ?_) (a' := ?_) #[true, true, true, true, true, false, true, false, false, false, false, false] rfl rfl (any_of HT_.out (by kernel_rfl)) (fun _ _ _ h => h) (Or.inl ⟨by rfl, ?_⟩) ?_ ?_
                      rotate_left
                      · intro w'
                        go_simp
                        with_reducible rfl
                      rotate_left
                      · simp only [Act.put, List.setIfInBounds_toArray, List.set_cons_zero, List.set_cons_succ, i64_w, i32_w]
                        rfl
                      refine pure_ (i := 7) (N := some 51) (v := ?_) (a' := ?_) #[true, true, true, true, true, false, true, true, false, false, false, false] rfl rfl (any_of HT_.out (by kernel_rfl)) (fun _ _ _ h => h) (Or.inl ⟨by rfl, ?_⟩) ?_ ?_
                      rotate_left
                      · intro w'
                        go_simp
                        with_reducible rfl
                      rotate_left
                      · simp only [Act.put, List.setIfInBounds_toArray, List.set_cons_zero, List.set_cons_succ, i64_w, i32_w]
                        rfl
                      refine pure_ (i := 8) (N := some 52) (v := ?_) (a' := ?_) #[true, true, true, true, true, false, true, true, true, false, false, false] rfl rfl (any_of HT_.out (by kernel_rfl)) (fun _ _ _ h => h) (Or.inl ⟨by rfl, ?_⟩) ?_ ?_
                      rotate_left
                      · intro w'
                        go_simp
                        with_reducible rfl
                      rotate_left
                      · simp only [Act.put, List.setIfInBounds_toArray, List.set_cons_zero, List.set_cons_succ, i64_w, i32_w]
                        rfl
                      refine take_ (i := 5) (N := some 49) (v := ?_) (a' := ?_) #[true, true, true, true, true, true, true, true, true, false, false, false] rfl rfl (take_ofW HT_.out HW_.out (by kernel_rfl)) (fun _ _ _ h => h) (Or.inl ⟨by rfl, ?_⟩) hHeld ?_ ?_
                      rotate_left
                      · intro w' s0
                        go_simp
                        with_reducible rfl
                      rotate_left
                      · simp only [Act.put, List.setIfInBounds_toArray, List.set_cons_zero, List.set_cons_succ, i64_w, i32_w]
                        rfl
                      refine pure_ (i := 9) (N := some 53) (v := ?_) (a' := ?_) #[true, true, true, true, true, true, true, true, true, true, false, false] rfl rfl (any_of HT_.out (by kernel_rfl)) (fun _ _ _ h => h) (Or.inl ⟨by rfl, ?_⟩) ?_ ?_
                      rotate_left
                      · intro w'
                        go_simp
                        with_reducible rfl
                      rotate_left
                      · simp only [Act.put, List.setIfInBounds_toArray, List.set_cons_zero, List.set_cons_succ, i64_w, i32_w]
                        rfl
                      refine pure_ (i := 10) (N := some 54) (v := ?_) (a' := ?_) #[true, true, true, true, true, true, true, true, true, true, true, false] rfl rfl (any_of HT_.out (by kernel_rfl)) (fun _ _ _ h => h) (Or.inl ⟨by rfl, ?_⟩) ?_ ?_
                      rotate_left
                      · intro w'
                        go_simp
                        with_reducible rfl
                      rotate_left
                      · simp only [Act.put, List.setIfInBounds_toArray, List.set_cons_zero, List.set_cons_succ, i64_w, i32_w]
                        rfl
                      refine last_ (i := 11) (N := none) #[true, true, true, true, true, true, true, true, true, true, true, true] rfl rfl (one_of HT_.out (by kernel_rfl)) (by decide) (fun K hK => ?_)
                      refine skip_ (w1 := ?_) (by rfl) rfl ?_ ?_
                      rotate_left
                      · go_simp
                        rfl
                      refine hK.out _ _ ?_
                      clear hK K
                      refine done_ (done_of HT_.out (by kernel_rfl)) ?_
                      have hcv41 := own_string (P := Try.prog) Try.underlying38 Try.underlying5 Try.underlying9 (Kd.own_of_R HQ40.out)
                      try go_wp2_with (first | ((with_reducible refine gate_callee (f := 18) rfl ?_); refine goesL_ (some 58) rfl rfl Try.func18 (by kernel_rfl) rfl #[.string (strOfNums y257), .int .i64 0] rfl (by (try simp only [List.map_toArray, List.map_cons, List.map_nil]); first | done | rfl | (simp only [List.length_drop, List.length_take]; rfl)) ?_; (with_reducible refine (check_Open.calls k (strOfNums y257) 0 t258 t259 t260 _ A21.out).mono ?_); rintro e w42 ⟨rfl, hb⟩; refine ⟨_, rfl, ?_⟩; have n0_ := Aside0.mk (Kd.R_below (by (with_reducible repeat (first | apply Kd.R_alloc | apply Kd.R_drewN | apply Kd.R_drew)); exact HQ40.out) hb); have n1_ := Aside0.mk (below_step (by repeat (first | (with_reducible first | exact HB.out | apply below_alloc | apply pw_below_drewN | apply below_drew1 | refine below_set ?_ GB20.out) | exact HB.out)) hb); clear HO255; clear HB; have HO255 := n0_; have HB := n1_; clear n0_ n1_; (try clear hb); (try clear hb2); (try clear hk); (try clear hi)))
                      go_ret
                      exact ⟨by first | rfl | (simp [errW_none, errW_some] <;> rfl) | (simp only [← hji4, ← hji15, ← hji19]; first | rfl | (simp [errW_none, errW_some] <;> rfl)) | (simp [*, errW_none, errW_some] <;> rfl), by repeat (first | (with_reducible first | exact HB.out | apply below_alloc | apply pw_below_drewN | apply below_drew1) | exact HB.out)⟩
                  · rw [if_neg c18] at H
                    exact absurd H (by simp)
                · rw [if_neg c17] at H
                  exact absurd H (by simp)
              · rw [if_neg c16] at H
                exact absurd H (by simp)
            · rw [if_neg c14] at H
              exact absurd H (by simp)
    · rw [if_neg c6] at H
      exact absurd H (by simp)
  · rw [if_neg c5] at H
    exact absurd H (by simp)

/-- THE ONE PURE STATEMENT of rivuletlaw02_CheckBits: yours. -/
def rivuletlaw02_CheckBits.Pure : Prop := ∀ (a0 : ByteArray) (a1 : Int) (a2 : Int), a0.size ≤ 140737488351232 → (Lit.int .i64 a1).wf = true → (Lit.int .i64 a2).wf = true → ∃ k, rivuletlaw02_CheckBits.f k a0 a1 a2 = some true
theorem rivuletlaw02_CheckBits.walk (P : rivuletlaw02_CheckBits.Pure) (a0 : ByteArray) (a1 : Int) (a2 : Int) (w : World) (w0 : a0.size ≤ 140737488351232) (w1 : (Lit.int .i64 a1).wf = true) (w2 : (Lit.int .i64 a2).wf = true) :
    Calls Try.prog 7 #[.string a0, .int .i64 a1, .int .i64 a2] w fun e w' => e = .returned (.bool true) ∧ Below w.heap.size w w' := by
  obtain ⟨k, h⟩ := P a0 a1 a2 w0 w1 w2
  refine (rivuletlaw02_CheckBits.calls k a0 a1 a2 true w h).mono ?_
  rintro e w' ⟨rfl, hd⟩
  exact ⟨rfl, hd⟩

end Go.Proofs.Ythincnfcekcdaaa.Pr
