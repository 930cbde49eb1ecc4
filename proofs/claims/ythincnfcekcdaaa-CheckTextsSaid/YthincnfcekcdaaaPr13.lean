-- Printed by this session's changed copy of the kit's printer (wip/tools/mkprint.py; some functions are given by hand). Lean checks it.
import Derived.Test.YthincnfcekcdaaaPr0
import Derived.Test.YthincnfcekcdaaaPr1
import Derived.Test.YthincnfcekcdaaaPr3
namespace Go.Proofs.Ythincnfcekcdaaa.Pr
open Go.RowKit Go.Proofs.YthincnfcekcdaaaW.PrintWords Go.Proofs.YthincnfcekcdaaaW.PrintLast Go.Proofs.YthincnfcekcdaaaW.PrintMore
attribute [local go_sem] max2_int min2_int max_two min_two max_three min_three max_four min_four   -- for this text's walks alone
set_option linter.unusedVariables false
set_option linter.unusedSimpArgs false

/-! ### rivuletlaw02_CheckTexts: function 10 -/
def rivuletlaw02_CheckTexts.f (k : Nat) (a0 : ByteArray) (a1 : ByteArray) : Option (Bool) := if 0 ≤ (mn (a0.size : Int) 60) then (if (mn (a0.size : Int) 60) ≤ (a0.size : Int) then (if 0 ≤ (mn (a1.size : Int) 60) then (if (mn (a1.size : Int) 60) ≤ (a1.size : Int) then ((check_Seal.f k (a0.extract 0 ((mn (a0.size : Int) 60) : Int).toNat)).bind fun t320 => ((check_Seal.f k (a1.extract 0 ((mn (a1.size : Int) 60) : Int).toNat)).bind fun t321 => (if t320.size + t321.size ≤ 9223372036854775807 then ((check_Open.f k (t320 ++ t321) 0).bind fun bt322 => (if 0 ≤ (mx 0 (wrap64 ((t320.size : Int) - 1))) then (if (mx 0 (wrap64 ((t320.size : Int) - 1))) ≤ (t320.size : Int) then ((check_Open.f k (t320.extract 0 ((mx 0 (wrap64 ((t320.size : Int) - 1))) : Int).toNat) 0).bind fun bt325 => (if ((t320.toList == t321.toList) == ((a0.extract 0 ((mn (a0.size : Int) 60) : Int).toNat).toList == (a1.extract 0 ((mn (a1.size : Int) 60) : Int).toNat).toList)) = true then (if bt322.2.2 = 0 then (if bt322.1.toList = (a0.extract 0 ((mn (a0.size : Int) 60) : Int).toNat).toList then (if bt325.2.2 = 3 then (if (t320.size : Int) > (t321.size : Int) then ((rivuletlaw02_fixed.f k).bind fun t328 => (some t328)) else (if (a0.extract 0 ((mn (a0.size : Int) 60) : Int).toNat).toList = (a1.extract 0 ((mn (a1.size : Int) 60) : Int).toNat).toList then ((rivuletlaw02_fixed.f k).bind fun t329 => (some t329)) else (if 0 ≤ (t320.size : Int) then (if (t320.size : Int) ≤ (t321.size : Int) then (if (t321.extract 0 ((t320.size : Int) : Int).toNat).toList = t320.toList then (some false) else ((rivuletlaw02_fixed.f k).bind fun t330 => (some t330))) else (none)) else (none)))) else (some false)) else (some false)) else (some false)) else (some false))) else (none)) else (none))) else (none)))) else (none)) else (none)) else (none)) else (none)
theorem rivuletlaw02_CheckTexts.mono : ∀ a0 a1 k, LeO (rivuletlaw02_CheckTexts.f k a0 a1) (rivuletlaw02_CheckTexts.f (k + 1) a0 a1) := by
  intro a0 a1 k
  unfold rivuletlaw02_CheckTexts.f
  repeat' first
      | (with_reducible exact check_Open.mono _ _ _)
      | (with_reducible exact check_Seal.mono _ _)
      | (with_reducible exact rivuletlaw02_fixed.mono _)
      | (with_reducible exact LeO.refl _)
      | (with_reducible exact LeO.none _)
      | (with_reducible refine LeO.ite ?_ ?_)
      | (with_reducible refine LeO.bind ?_ (fun _ => ?_))
      | exact check_Open.mono _ _ _
      | exact check_Seal.mono _ _
      | exact rivuletlaw02_fixed.mono _
      | exact LeO.none _
      | refine LeO.ite ?_ ?_
      | refine LeO.bind ?_ (fun _ => ?_)
set_option maxHeartbeats 8000000 in
set_option maxRecDepth 100000 in
theorem rivuletlaw02_CheckTexts.calls (k : Nat) (a0 : ByteArray) (a1 : ByteArray) (r : Bool) (w : World) (h : rivuletlaw02_CheckTexts.f k a0 a1 = some r) :
    Calls Try.prog 10 #[.string a0, .string a1] w fun e w' => e = .returned (.bool r) ∧ Below w.heap.size w w' := by
  have HB := Aside0.mk (Below.refl w.heap.size w)
  have H : (if 0 ≤ (mn (a0.size : Int) 60) then (if (mn (a0.size : Int) 60) ≤ (a0.size : Int) then (if 0 ≤ (mn (a1.size : Int) 60) then (if (mn (a1.size : Int) 60) ≤ (a1.size : Int) then ((check_Seal.f k (a0.extract 0 ((mn (a0.size : Int) 60) : Int).toNat)).bind fun t320 => ((check_Seal.f k (a1.extract 0 ((mn (a1.size : Int) 60) : Int).toNat)).bind fun t321 => (if t320.size + t321.size ≤ 9223372036854775807 then ((check_Open.f k (t320 ++ t321) 0).bind fun bt322 => (if 0 ≤ (mx 0 (wrap64 ((t320.size : Int) - 1))) then (if (mx 0 (wrap64 ((t320.size : Int) - 1))) ≤ (t320.size : Int) then ((check_Open.f k (t320.extract 0 ((mx 0 (wrap64 ((t320.size : Int) - 1))) : Int).toNat) 0).bind fun bt325 => (if ((t320.toList == t321.toList) == ((a0.extract 0 ((mn (a0.size : Int) 60) : Int).toNat).toList == (a1.extract 0 ((mn (a1.size : Int) 60) : Int).toNat).toList)) = true then (if bt322.2.2 = 0 then (if bt322.1.toList = (a0.extract 0 ((mn (a0.size : Int) 60) : Int).toNat).toList then (if bt325.2.2 = 3 then (if (t320.size : Int) > (t321.size : Int) then ((rivuletlaw02_fixed.f k).bind fun t328 => (some t328)) else (if (a0.extract 0 ((mn (a0.size : Int) 60) : Int).toNat).toList = (a1.extract 0 ((mn (a1.size : Int) 60) : Int).toNat).toList then ((rivuletlaw02_fixed.f k).bind fun t329 => (some t329)) else (if 0 ≤ (t320.size : Int) then (if (t320.size : Int) ≤ (t321.size : Int) then (if (t321.extract 0 ((t320.size : Int) : Int).toNat).toList = t320.toList then (some false) else ((rivuletlaw02_fixed.f k).bind fun t330 => (some t330))) else (none)) else (none)))) else (some false)) else (some false)) else (some false)) else (some false))) else (none)) else (none))) else (none)))) else (none)) else (none)) else (none)) else (none)) = some r := h
  clear h
  obtain ⟨ji3, hji3⟩ : ∃ j_ : Int, (mn (a0.size : Int) 60) = j_ := ⟨_, rfl⟩
  replace H : (if 0 ≤ (ji3) then (if (ji3) ≤ (a0.size : Int) then (if 0 ≤ (mn (a1.size : Int) 60) then (if (mn (a1.size : Int) 60) ≤ (a1.size : Int) then ((check_Seal.f k (a0.extract 0 ((ji3) : Int).toNat)).bind fun t320 => ((check_Seal.f k (a1.extract 0 ((mn (a1.size : Int) 60) : Int).toNat)).bind fun t321 => (if t320.size + t321.size ≤ 9223372036854775807 then ((check_Open.f k (t320 ++ t321) 0).bind fun bt322 => (if 0 ≤ (mx 0 (wrap64 ((t320.size : Int) - 1))) then (if (mx 0 (wrap64 ((t320.size : Int) - 1))) ≤ (t320.size : Int) then ((check_Open.f k (t320.extract 0 ((mx 0 (wrap64 ((t320.size : Int) - 1))) : Int).toNat) 0).bind fun bt325 => (if ((t320.toList == t321.toList) == ((a0.extract 0 ((ji3) : Int).toNat).toList == (a1.extract 0 ((mn (a1.size : Int) 60) : Int).toNat).toList)) = true then (if bt322.2.2 = 0 then (if bt322.1.toList = (a0.extract 0 ((ji3) : Int).toNat).toList then (if bt325.2.2 = 3 then (if (t320.size : Int) > (t321.size : Int) then ((rivuletlaw02_fixed.f k).bind fun t328 => (some t328)) else (if (a0.extract 0 ((ji3) : Int).toNat).toList = (a1.extract 0 ((mn (a1.size : Int) 60) : Int).toNat).toList then ((rivuletlaw02_fixed.f k).bind fun t329 => (some t329)) else (if 0 ≤ (t320.size : Int) then (if (t320.size : Int) ≤ (t321.size : Int) then (if (t321.extract 0 ((t320.size : Int) : Int).toNat).toList = t320.toList then (some false) else ((rivuletlaw02_fixed.f k).bind fun t330 => (some t330))) else (none)) else (none)))) else (some false)) else (some false)) else (some false)) else (some false))) else (none)) else (none))) else (none)))) else (none)) else (none)) else (none)) else (none)) = some r := by first | (rw [hji3] at H; exact H) | (simp only [hji3] at H ⊢; exact H)
  (try (have hji3h : ji3 ≤ 60 := by (rw [← hji3]; unfold mn; (repeat' split) <;> omega)))
  (try (have hji3g : ji3 ≤ 64 := by omega))
  (try (have hji3l : 0 ≤ ji3 := by (rw [← hji3]; unfold mn; (repeat' split) <;> omega)))
  (try (have hji3m : 0 ≤ ji3 := by omega))
  have hji3_ : (if 60 < (a0.size : Int) then 60 else (a0.size : Int)) = ji3 := hji3
  obtain ⟨Sji3, hSji3⟩ : ∃ S_ : ByteArray, a0.extract 0 (ji3 : Int).toNat = S_ := ⟨_, rfl⟩
  simp only [hSji3] at H
  by_cases c4 : 0 ≤ (ji3)
  · rw [if_pos c4] at H
    have c4b0 := eq_true c4
    have c4b1 : decide (0 ≤ (ji3)) = true := decide_eq_true c4
    clear c4
    by_cases c5 : (ji3) ≤ (a0.size : Int)
    · rw [if_pos c5] at H
      have c5b0 := eq_true c5
      have c5b1 : decide ((ji3) ≤ (a0.size : Int)) = true := decide_eq_true c5
      clear c5
      obtain ⟨ji6, hji6⟩ : ∃ j_ : Int, (mn (a1.size : Int) 60) = j_ := ⟨_, rfl⟩
      replace H : (if 0 ≤ (ji6) then (if (ji6) ≤ (a1.size : Int) then ((check_Seal.f k Sji3).bind fun t320 => ((check_Seal.f k (a1.extract 0 ((ji6) : Int).toNat)).bind fun t321 => (if t320.size + t321.size ≤ 9223372036854775807 then ((check_Open.f k (t320 ++ t321) 0).bind fun bt322 => (if 0 ≤ (mx 0 (wrap64 ((t320.size : Int) - 1))) then (if (mx 0 (wrap64 ((t320.size : Int) - 1))) ≤ (t320.size : Int) then ((check_Open.f k (t320.extract 0 ((mx 0 (wrap64 ((t320.size : Int) - 1))) : Int).toNat) 0).bind fun bt325 => (if ((t320.toList == t321.toList) == (Sji3.toList == (a1.extract 0 ((ji6) : Int).toNat).toList)) = true then (if bt322.2.2 = 0 then (if bt322.1.toList = Sji3.toList then (if bt325.2.2 = 3 then (if (t320.size : Int) > (t321.size : Int) then ((rivuletlaw02_fixed.f k).bind fun t328 => (some t328)) else (if Sji3.toList = (a1.extract 0 ((ji6) : Int).toNat).toList then ((rivuletlaw02_fixed.f k).bind fun t329 => (some t329)) else (if 0 ≤ (t320.size : Int) then (if (t320.size : Int) ≤ (t321.size : Int) then (if (t321.extract 0 ((t320.size : Int) : Int).toNat).toList = t320.toList then (some false) else ((rivuletlaw02_fixed.f k).bind fun t330 => (some t330))) else (none)) else (none)))) else (some false)) else (some false)) else (some false)) else (some false))) else (none)) else (none))) else (none)))) else (none)) else (none)) = some r := by first | (rw [hji6] at H; exact H) | (simp only [hji6] at H ⊢; exact H)
      (try (have hji6h : ji6 ≤ 60 := by (rw [← hji6]; unfold mn; (repeat' split) <;> omega)))
      (try (have hji6g : ji6 ≤ 64 := by omega))
      (try (have hji6l : 0 ≤ ji6 := by (rw [← hji6]; unfold mn; (repeat' split) <;> omega)))
      (try (have hji6m : 0 ≤ ji6 := by omega))
      have hji6_ : (if 60 < (a1.size : Int) then 60 else (a1.size : Int)) = ji6 := hji6
      obtain ⟨Sji6, hSji6⟩ : ∃ S_ : ByteArray, a1.extract 0 (ji6 : Int).toNat = S_ := ⟨_, rfl⟩
      simp only [hSji6] at H
      by_cases c7 : 0 ≤ (ji6)
      · rw [if_pos c7] at H
        have c7b0 := eq_true c7
        have c7b1 : decide (0 ≤ (ji6)) = true := decide_eq_true c7
        clear c7
        by_cases c8 : (ji6) ≤ (a1.size : Int)
        · rw [if_pos c8] at H
          have c8b0 := eq_true c8
          have c8b1 : decide ((ji6) ≤ (a1.size : Int)) = true := decide_eq_true c8
          clear c8
          replace H := Option.bind_eq_some_iff.mp H
          obtain ⟨t320, A90, H⟩ := H
          replace H : ((check_Seal.f k Sji6).bind fun t321 => (if t320.size + t321.size ≤ 9223372036854775807 then ((check_Open.f k (t320 ++ t321) 0).bind fun bt322 => (if 0 ≤ (mx 0 (wrap64 ((t320.size : Int) - 1))) then (if (mx 0 (wrap64 ((t320.size : Int) - 1))) ≤ (t320.size : Int) then ((check_Open.f k (t320.extract 0 ((mx 0 (wrap64 ((t320.size : Int) - 1))) : Int).toNat) 0).bind fun bt325 => (if ((t320.toList == t321.toList) == (Sji3.toList == Sji6.toList)) = true then (if bt322.2.2 = 0 then (if bt322.1.toList = Sji3.toList then (if bt325.2.2 = 3 then (if (t320.size : Int) > (t321.size : Int) then ((rivuletlaw02_fixed.f k).bind fun t328 => (some t328)) else (if Sji3.toList = Sji6.toList then ((rivuletlaw02_fixed.f k).bind fun t329 => (some t329)) else (if 0 ≤ (t320.size : Int) then (if (t320.size : Int) ≤ (t321.size : Int) then (if (t321.extract 0 ((t320.size : Int) : Int).toNat).toList = t320.toList then (some false) else ((rivuletlaw02_fixed.f k).bind fun t330 => (some t330))) else (none)) else (none)))) else (some false)) else (some false)) else (some false)) else (some false))) else (none)) else (none))) else (none))) = some r := H
          have A9 := Aside0.mk A90
          clear A90
          replace H := Option.bind_eq_some_iff.mp H
          obtain ⟨t321, A100, H⟩ := H
          replace H : (if t320.size + t321.size ≤ 9223372036854775807 then ((check_Open.f k (t320 ++ t321) 0).bind fun bt322 => (if 0 ≤ (mx 0 (wrap64 ((t320.size : Int) - 1))) then (if (mx 0 (wrap64 ((t320.size : Int) - 1))) ≤ (t320.size : Int) then ((check_Open.f k (t320.extract 0 ((mx 0 (wrap64 ((t320.size : Int) - 1))) : Int).toNat) 0).bind fun bt325 => (if ((t320.toList == t321.toList) == (Sji3.toList == Sji6.toList)) = true then (if bt322.2.2 = 0 then (if bt322.1.toList = Sji3.toList then (if bt325.2.2 = 3 then (if (t320.size : Int) > (t321.size : Int) then ((rivuletlaw02_fixed.f k).bind fun t328 => (some t328)) else (if Sji3.toList = Sji6.toList then ((rivuletlaw02_fixed.f k).bind fun t329 => (some t329)) else (if 0 ≤ (t320.size : Int) then (if (t320.size : Int) ≤ (t321.size : Int) then (if (t321.extract 0 ((t320.size : Int) : Int).toNat).toList = t320.toList then (some false) else ((rivuletlaw02_fixed.f k).bind fun t330 => (some t330))) else (none)) else (none)))) else (some false)) else (some false)) else (some false)) else (some false))) else (none)) else (none))) else (none)) = some r := H
          have A10 := Aside0.mk A100
          clear A100
          by_cases c11 : t320.size + t321.size ≤ 9223372036854775807
          · rw [if_pos c11] at H
            have c11b0 := eq_true c11
            have c11b1 : decide (t320.size + t321.size ≤ 9223372036854775807) = true := decide_eq_true c11
            try have c11b2 : (9223372036854775807 < t320.size + t321.size) = False := eq_false (Nat.not_lt.2 c11)
            replace H := Option.bind_eq_some_iff.mp H
            obtain ⟨⟨t322, t323, t324⟩, A120, H⟩ := H
            replace H : (if 0 ≤ (mx 0 (wrap64 ((t320.size : Int) - 1))) then (if (mx 0 (wrap64 ((t320.size : Int) - 1))) ≤ (t320.size : Int) then ((check_Open.f k (t320.extract 0 ((mx 0 (wrap64 ((t320.size : Int) - 1))) : Int).toNat) 0).bind fun bt325 => (if ((t320.toList == t321.toList) == (Sji3.toList == Sji6.toList)) = true then (if t324 = 0 then (if t322.toList = Sji3.toList then (if bt325.2.2 = 3 then (if (t320.size : Int) > (t321.size : Int) then ((rivuletlaw02_fixed.f k).bind fun t328 => (some t328)) else (if Sji3.toList = Sji6.toList then ((rivuletlaw02_fixed.f k).bind fun t329 => (some t329)) else (if 0 ≤ (t320.size : Int) then (if (t320.size : Int) ≤ (t321.size : Int) then (if (t321.extract 0 ((t320.size : Int) : Int).toNat).toList = t320.toList then (some false) else ((rivuletlaw02_fixed.f k).bind fun t330 => (some t330))) else (none)) else (none)))) else (some false)) else (some false)) else (some false)) else (some false))) else (none)) else (none)) = some r := H
            have A12 := Aside0.mk A120
            clear A120
            obtain ⟨ji13, hji13⟩ : ∃ j_ : Int, (mx 0 (wrap64 ((t320.size : Int) - 1))) = j_ := ⟨_, rfl⟩
            replace H : (if 0 ≤ (ji13) then (if (ji13) ≤ (t320.size : Int) then ((check_Open.f k (t320.extract 0 ((ji13) : Int).toNat) 0).bind fun bt325 => (if ((t320.toList == t321.toList) == (Sji3.toList == Sji6.toList)) = true then (if t324 = 0 then (if t322.toList = Sji3.toList then (if bt325.2.2 = 3 then (if (t320.size : Int) > (t321.size : Int) then ((rivuletlaw02_fixed.f k).bind fun t328 => (some t328)) else (if Sji3.toList = Sji6.toList then ((rivuletlaw02_fixed.f k).bind fun t329 => (some t329)) else (if 0 ≤ (t320.size : Int) then (if (t320.size : Int) ≤ (t321.size : Int) then (if (t321.extract 0 ((t320.size : Int) : Int).toNat).toList = t320.toList then (some false) else ((rivuletlaw02_fixed.f k).bind fun t330 => (some t330))) else (none)) else (none)))) else (some false)) else (some false)) else (some false)) else (some false))) else (none)) else (none)) = some r := by first | (rw [hji13] at H; exact H) | (simp only [hji13] at H ⊢; exact H)
            (try rw [hji13] at A9)
            (try rw [hji13] at A10)
            (try rw [hji13] at A12)
            (try (have hji13l : 0 ≤ ji13 := by (rw [← hji13]; unfold mx; (repeat' split) <;> omega)))
            (try (have hji13m : 0 ≤ ji13 := by omega))
            have hji13_ : (if 0 < (wrap64 ((t320.size : Int) - 1)) then (wrap64 ((t320.size : Int) - 1)) else 0) = ji13 := hji13
            rw [IntWalk.wrap64_in ((t320.size : Int) - 1) (by omega)] at hji13_
            have hji13a : (if 1 < (t320.size : Int) then (t320.size : Int) - 1 else 0) = ji13 := by rw [← hji13_]; (repeat' split) <;> omega
            have hji13b : (if 1 < t320.size then (t320.size : Int) - 1 else 0) = ji13 := by rw [← hji13_]; (repeat' split) <;> omega
            by_cases c14 : 0 ≤ (ji13)
            · rw [if_pos c14] at H
              have c14b0 := eq_true c14
              have c14b1 : decide (0 ≤ (ji13)) = true := decide_eq_true c14
              clear c14
              by_cases c15 : (ji13) ≤ (t320.size : Int)
              · rw [if_pos c15] at H
                have c15b0 := eq_true c15
                have c15b1 : decide ((ji13) ≤ (t320.size : Int)) = true := decide_eq_true c15
                clear c15
                replace H := Option.bind_eq_some_iff.mp H
                obtain ⟨⟨t325, t326, t327⟩, A160, H⟩ := H
                replace H : (if ((t320.toList == t321.toList) == (Sji3.toList == Sji6.toList)) = true then (if t324 = 0 then (if t322.toList = Sji3.toList then (if t327 = 3 then (if (t320.size : Int) > (t321.size : Int) then ((rivuletlaw02_fixed.f k).bind fun t328 => (some t328)) else (if Sji3.toList = Sji6.toList then ((rivuletlaw02_fixed.f k).bind fun t329 => (some t329)) else (if 0 ≤ (t320.size : Int) then (if (t320.size : Int) ≤ (t321.size : Int) then (if (t321.extract 0 ((t320.size : Int) : Int).toNat).toList = t320.toList then (some false) else ((rivuletlaw02_fixed.f k).bind fun t330 => (some t330))) else (none)) else (none)))) else (some false)) else (some false)) else (some false)) else (some false)) = some r := H
                have A16 := Aside0.mk A160
                clear A160
                by_cases c17 : ((t320.toList == t321.toList) == (Sji3.toList == Sji6.toList)) = true
                · rw [if_pos c17] at H
                  have c17b0 : ((t320.toList == t321.toList) == (Sji3.toList == Sji6.toList)) = true := c17
                  (try (have c17b1 : decide ((t320.toList == t321.toList) = (Sji3.toList == Sji6.toList)) = true := by simpa using c17))
                  (try (have c17b2 : ((t320.toList == t321.toList) == (Sji3.toList == Sji6.toList)) = true := by simpa using c17))
                  clear c17
                  by_cases c18 : t324 = 0
                  · rw [if_pos c18] at H
                    have c18b0 : (t324 == 0) = true := beq_iff_eq.mpr c18
                    have c18b1 : (t324 != 0) = false := bne_eq_false_iff_eq.mpr c18
                    clear c18
                    by_cases c19 : t322.toList = Sji3.toList
                    · rw [if_pos c19] at H
                      have c19b0 : (t322.toList == Sji3.toList) = true := beq_iff_eq.mpr c19
                      have c19b1 : (t322.toList != Sji3.toList) = false := bne_eq_false_iff_eq.mpr c19
                      clear c19
                      by_cases c20 : t327 = 3
                      · rw [if_pos c20] at H
                        have c20b0 : (t327 == 3) = true := beq_iff_eq.mpr c20
                        have c20b1 : (t327 != 3) = false := bne_eq_false_iff_eq.mpr c20
                        clear c20
                        by_cases c21 : (t320.size : Int) > (t321.size : Int)
                        · rw [if_pos c21] at H
                          have c21b0 : decide ((t321.size : Int) < (t320.size : Int)) = true := decide_eq_true c21
                          have c21b1 : decide (t321.size < t320.size) = true := decide_eq_true (Int.ofNat_lt.mp c21)
                          clear c21
                          replace H := Option.bind_eq_some_iff.mp H
                          obtain ⟨t328, A220, H⟩ := H
                          replace H : (some t328) = some r := H
                          have A22 := Aside0.mk A220
                          clear A220
                          obtain rfl := Option.some.inj H
                          go_enter Try.func10, Try.ntmps10
                          go_wp2_with (first | ((with_reducible refine gate_callee (f := 15) rfl ?_); refine goesL_ (some 24) rfl rfl Try.func15 (by kernel_rfl) rfl #[.string Sji3] rfl (by (try simp only [List.map_toArray, List.map_cons, List.map_nil]); first | done | (simp only [hji3]; rfl) | rfl | (simp only [List.length_drop, List.length_take]; rfl)) ?_; (with_reducible refine (check_Seal.calls k Sji3 t320 _ A9.out).mono ?_); rintro e w23 ⟨rfl, hb⟩; refine ⟨_, rfl, ?_⟩; have n0_ := Aside0.mk (below_step (by repeat (first | (with_reducible first | exact HB.out | apply below_alloc | apply pw_below_drewN | apply below_drew1) | exact HB.out)) hb); clear HB; have HB := n0_; clear n0_; (try clear hb); (try clear hb2); (try clear hk); (try clear hi)) | ((with_reducible refine gate_callee (f := 15) rfl ?_); refine goesL_ (some 26) rfl rfl Try.func15 (by kernel_rfl) rfl #[.string Sji6] rfl (by (try simp only [List.map_toArray, List.map_cons, List.map_nil]); first | done | (simp only [hji6]; rfl) | rfl | (simp only [List.length_drop, List.length_take]; rfl)) ?_; (with_reducible refine (check_Seal.calls k Sji6 t321 _ A10.out).mono ?_); rintro e w24 ⟨rfl, hb⟩; refine ⟨_, rfl, ?_⟩; have n0_ := Aside0.mk (below_step (by repeat (first | (with_reducible first | exact HB.out | apply below_alloc | apply pw_below_drewN | apply below_drew1) | exact HB.out)) hb); clear HB; have HB := n0_; clear n0_; (try clear hb); (try clear hb2); (try clear hk); (try clear hi)) | ((with_reducible refine gate_callee (f := 18) rfl ?_); refine goesL_ (some 31) rfl rfl Try.func18 (by kernel_rfl) rfl #[.string (t320 ++ t321), .int .i64 0] rfl (by (try simp only [List.map_toArray, List.map_cons, List.map_nil]); first | done | rfl | (simp only [List.length_drop, List.length_take]; rfl)) ?_; (with_reducible refine (check_Open.calls k (t320 ++ t321) 0 t322 t323 t324 _ A12.out).mono ?_); rintro e w25 ⟨rfl, hb⟩; refine ⟨_, rfl, ?_⟩; have n0_ := Aside0.mk (below_step (by repeat (first | (with_reducible first | exact HB.out | apply below_alloc | apply pw_below_drewN | apply below_drew1) | exact HB.out)) hb); clear HB; have HB := n0_; clear n0_; (try clear hb); (try clear hb2); (try clear hk); (try clear hi)) | ((with_reducible refine gate_callee (f := 18) rfl ?_); refine goesL_ (some 42) rfl rfl Try.func18 (by kernel_rfl) rfl #[.string (t320.extract 0 ((ji13) : Int).toNat), .int .i64 0] rfl (by (try simp only [List.map_toArray, List.map_cons, List.map_nil]); first | done | (simp only [hji13]; rfl) | rfl | (simp only [List.length_drop, List.length_take]; rfl)) ?_; (with_reducible refine (check_Open.calls k (t320.extract 0 ((ji13) : Int).toNat) 0 t325 t326 t327 _ A16.out).mono ?_); rintro e w26 ⟨rfl, hb⟩; refine ⟨_, rfl, ?_⟩; have n0_ := Aside0.mk (below_step (by repeat (first | (with_reducible first | exact HB.out | apply below_alloc | apply pw_below_drewN | apply below_drew1) | exact HB.out)) hb); clear HB; have HB := n0_; clear n0_; (try clear hb); (try clear hb2); (try clear hk); (try clear hi)) | (go_at_call 17; (with_reducible refine (rivuletlaw02_fixed.calls k  t328 _ A22.out).mono ?_); rintro e w27 ⟨rfl, hb⟩; have n0_ := Aside0.mk (below_step (by repeat (first | (with_reducible first | exact HB.out | apply below_alloc | apply pw_below_drewN | apply below_drew1) | exact HB.out)) hb); clear HB; have HB := n0_; clear n0_; (try clear hb); (try clear hb2); (try clear hk); (try clear hi)))
                          go_ret
                          exact ⟨by first | rfl | (simp [errW_none, errW_some] <;> rfl) | (simp only [← hji3, ← hji6, ← hji13]; first | rfl | (simp [errW_none, errW_some] <;> rfl)) | (simp [*, errW_none, errW_some] <;> rfl), by repeat (first | (with_reducible first | exact HB.out | apply below_alloc | apply pw_below_drewN | apply below_drew1) | exact HB.out)⟩
                        · rw [if_neg c21] at H
                          have c21b0 : decide ((t321.size : Int) < (t320.size : Int)) = false := decide_eq_false c21
                          have c21b1 : decide (t321.size < t320.size) = false := decide_eq_false (fun h => c21 (Int.ofNat_lt.mpr h))
                          clear c21
                          by_cases c28 : Sji3.toList = Sji6.toList
                          · rw [if_pos c28] at H
                            have c28b0 : (Sji3.toList == Sji6.toList) = true := beq_iff_eq.mpr c28
                            have c28b1 : (Sji3.toList != Sji6.toList) = false := bne_eq_false_iff_eq.mpr c28
                            have c17c : (t320.toList == t321.toList) = true := by rw [c28b0] at c17b0; revert c17b0; cases (t320.toList == t321.toList) <;> decide
                            clear c28
                            replace H := Option.bind_eq_some_iff.mp H
                            obtain ⟨t329, A290, H⟩ := H
                            replace H : (some t329) = some r := H
                            have A29 := Aside0.mk A290
                            clear A290
                            obtain rfl := Option.some.inj H
                            go_enter Try.func10, Try.ntmps10
                            go_wp2_with (first | ((with_reducible refine gate_callee (f := 15) rfl ?_); refine goesL_ (some 24) rfl rfl Try.func15 (by kernel_rfl) rfl #[.string Sji3] rfl (by (try simp only [List.map_toArray, List.map_cons, List.map_nil]); first | done | (simp only [hji3]; rfl) | rfl | (simp only [List.length_drop, List.length_take]; rfl)) ?_; (with_reducible refine (check_Seal.calls k Sji3 t320 _ A9.out).mono ?_); rintro e w30 ⟨rfl, hb⟩; refine ⟨_, rfl, ?_⟩; have n0_ := Aside0.mk (below_step (by repeat (first | (with_reducible first | exact HB.out | apply below_alloc | apply pw_below_drewN | apply below_drew1) | exact HB.out)) hb); clear HB; have HB := n0_; clear n0_; (try clear hb); (try clear hb2); (try clear hk); (try clear hi)) | ((with_reducible refine gate_callee (f := 15) rfl ?_); refine goesL_ (some 26) rfl rfl Try.func15 (by kernel_rfl) rfl #[.string Sji6] rfl (by (try simp only [List.map_toArray, List.map_cons, List.map_nil]); first | done | (simp only [hji6]; rfl) | rfl | (simp only [List.length_drop, List.length_take]; rfl)) ?_; (with_reducible refine (check_Seal.calls k Sji6 t321 _ A10.out).mono ?_); rintro e w31 ⟨rfl, hb⟩; refine ⟨_, rfl, ?_⟩; have n0_ := Aside0.mk (below_step (by repeat (first | (with_reducible first | exact HB.out | apply below_alloc | apply pw_below_drewN | apply below_drew1) | exact HB.out)) hb); clear HB; have HB := n0_; clear n0_; (try clear hb); (try clear hb2); (try clear hk); (try clear hi)) | ((with_reducible refine gate_callee (f := 18) rfl ?_); refine goesL_ (some 31) rfl rfl Try.func18 (by kernel_rfl) rfl #[.string (t320 ++ t321), .int .i64 0] rfl (by (try simp only [List.map_toArray, List.map_cons, List.map_nil]); first | done | rfl | (simp only [List.length_drop, List.length_take]; rfl)) ?_; (with_reducible refine (check_Open.calls k (t320 ++ t321) 0 t322 t323 t324 _ A12.out).mono ?_); rintro e w32 ⟨rfl, hb⟩; refine ⟨_, rfl, ?_⟩; have n0_ := Aside0.mk (below_step (by repeat (first | (with_reducible first | exact HB.out | apply below_alloc | apply pw_below_drewN | apply below_drew1) | exact HB.out)) hb); clear HB; have HB := n0_; clear n0_; (try clear hb); (try clear hb2); (try clear hk); (try clear hi)) | ((with_reducible refine gate_callee (f := 18) rfl ?_); refine goesL_ (some 42) rfl rfl Try.func18 (by kernel_rfl) rfl #[.string (t320.extract 0 ((ji13) : Int).toNat), .int .i64 0] rfl (by (try simp only [List.map_toArray, List.map_cons, List.map_nil]); first | done | (simp only [hji13]; rfl) | rfl | (simp only [List.length_drop, List.length_take]; rfl)) ?_; (with_reducible refine (check_Open.calls k (t320.extract 0 ((ji13) : Int).toNat) 0 t325 t326 t327 _ A16.out).mono ?_); rintro e w33 ⟨rfl, hb⟩; refine ⟨_, rfl, ?_⟩; have n0_ := Aside0.mk (below_step (by repeat (first | (with_reducible first | exact HB.out | apply below_alloc | apply pw_below_drewN | apply below_drew1) | exact HB.out)) hb); clear HB; have HB := n0_; clear n0_; (try clear hb); (try clear hb2); (try clear hk); (try clear hi)) | (go_at_call 17; (with_reducible refine (rivuletlaw02_fixed.calls k  t329 _ A29.out).mono ?_); rintro e w34 ⟨rfl, hb⟩; have n0_ := Aside0.mk (below_step (by repeat (first | (with_reducible first | exact HB.out | apply below_alloc | apply pw_below_drewN | apply below_drew1) | exact HB.out)) hb); clear HB; have HB := n0_; clear n0_; (try clear hb); (try clear hb2); (try clear hk); (try clear hi)))
                            go_ret
                            exact ⟨by first | rfl | (simp [errW_none, errW_some] <;> rfl) | (simp only [← hji3, ← hji6, ← hji13]; first | rfl | (simp [errW_none, errW_some] <;> rfl)) | (simp [*, errW_none, errW_some] <;> rfl), by repeat (first | (with_reducible first | exact HB.out | apply below_alloc | apply pw_below_drewN | apply below_drew1) | exact HB.out)⟩
                          · rw [if_neg c28] at H
                            have c28b0 : (Sji3.toList == Sji6.toList) = false := beq_eq_false_iff_ne.mpr c28
                            have c28b1 : (Sji3.toList != Sji6.toList) = true := bne_iff_ne.mpr c28
                            have c17c : (t320.toList == t321.toList) = false := by rw [c28b0] at c17b0; revert c17b0; cases (t320.toList == t321.toList) <;> decide
                            by_cases c35 : 0 ≤ (t320.size : Int)
                            · rw [if_pos c35] at H
                              have c35b0 := eq_true c35
                              have c35b1 : decide (0 ≤ (t320.size : Int)) = true := decide_eq_true c35
                              clear c35
                              by_cases c36 : (t320.size : Int) ≤ (t321.size : Int)
                              · rw [if_pos c36] at H
                                have c36b0 := eq_true c36
                                have c36b1 : decide ((t320.size : Int) ≤ (t321.size : Int)) = true := decide_eq_true c36
                                clear c36
                                by_cases c37 : (t321.extract 0 ((t320.size : Int) : Int).toNat).toList = t320.toList
                                · rw [if_pos c37] at H
                                  have c37b0 : ((t321.extract 0 ((t320.size : Int) : Int).toNat).toList == t320.toList) = true := beq_iff_eq.mpr c37
                                  have c37n : ((t321.extract 0 t320.size).toList == t320.toList) = true := c37b0
                                  have c37b1 : ((t321.extract 0 ((t320.size : Int) : Int).toNat).toList != t320.toList) = false := bne_eq_false_iff_eq.mpr c37
                                  clear c37
                                  obtain rfl := Option.some.inj H
                                  go_enter Try.func10, Try.ntmps10
                                  go_wp2_with (first | ((with_reducible refine gate_callee (f := 15) rfl ?_); refine goesL_ (some 24) rfl rfl Try.func15 (by kernel_rfl) rfl #[.string Sji3] rfl (by (try simp only [List.map_toArray, List.map_cons, List.map_nil]); first | done | (simp only [hji3]; rfl) | rfl | (simp only [List.length_drop, List.length_take]; rfl)) ?_; (with_reducible refine (check_Seal.calls k Sji3 t320 _ A9.out).mono ?_); rintro e w38 ⟨rfl, hb⟩; refine ⟨_, rfl, ?_⟩; have n0_ := Aside0.mk (below_step (by repeat (first | (with_reducible first | exact HB.out | apply below_alloc | apply pw_below_drewN | apply below_drew1) | exact HB.out)) hb); clear HB; have HB := n0_; clear n0_; (try clear hb); (try clear hb2); (try clear hk); (try clear hi)) | ((with_reducible refine gate_callee (f := 15) rfl ?_); refine goesL_ (some 26) rfl rfl Try.func15 (by kernel_rfl) rfl #[.string Sji6] rfl (by (try simp only [List.map_toArray, List.map_cons, List.map_nil]); first | done | (simp only [hji6]; rfl) | rfl | (simp only [List.length_drop, List.length_take]; rfl)) ?_; (with_reducible refine (check_Seal.calls k Sji6 t321 _ A10.out).mono ?_); rintro e w39 ⟨rfl, hb⟩; refine ⟨_, rfl, ?_⟩; have n0_ := Aside0.mk (below_step (by repeat (first | (with_reducible first | exact HB.out | apply below_alloc | apply pw_below_drewN | apply below_drew1) | exact HB.out)) hb); clear HB; have HB := n0_; clear n0_; (try clear hb); (try clear hb2); (try clear hk); (try clear hi)) | ((with_reducible refine gate_callee (f := 18) rfl ?_); refine goesL_ (some 31) rfl rfl Try.func18 (by kernel_rfl) rfl #[.string (t320 ++ t321), .int .i64 0] rfl (by (try simp only [List.map_toArray, List.map_cons, List.map_nil]); first | done | rfl | (simp only [List.length_drop, List.length_take]; rfl)) ?_; (with_reducible refine (check_Open.calls k (t320 ++ t321) 0 t322 t323 t324 _ A12.out).mono ?_); rintro e w40 ⟨rfl, hb⟩; refine ⟨_, rfl, ?_⟩; have n0_ := Aside0.mk (below_step (by repeat (first | (with_reducible first | exact HB.out | apply below_alloc | apply pw_below_drewN | apply below_drew1) | exact HB.out)) hb); clear HB; have HB := n0_; clear n0_; (try clear hb); (try clear hb2); (try clear hk); (try clear hi)) | ((with_reducible refine gate_callee (f := 18) rfl ?_); refine goesL_ (some 42) rfl rfl Try.func18 (by kernel_rfl) rfl #[.string (t320.extract 0 ((ji13) : Int).toNat), .int .i64 0] rfl (by (try simp only [List.map_toArray, List.map_cons, List.map_nil]); first | done | (simp only [hji13]; rfl) | rfl | (simp only [List.length_drop, List.length_take]; rfl)) ?_; (with_reducible refine (check_Open.calls k (t320.extract 0 ((ji13) : Int).toNat) 0 t325 t326 t327 _ A16.out).mono ?_); rintro e w41 ⟨rfl, hb⟩; refine ⟨_, rfl, ?_⟩; have n0_ := Aside0.mk (below_step (by repeat (first | (with_reducible first | exact HB.out | apply below_alloc | apply pw_below_drewN | apply below_drew1) | exact HB.out)) hb); clear HB; have HB := n0_; clear n0_; (try clear hb); (try clear hb2); (try clear hk); (try clear hi)))
                                  go_ret
                                  exact ⟨by first | rfl | (simp [errW_none, errW_some] <;> rfl) | (simp only [← hji3, ← hji6, ← hji13]; first | rfl | (simp [errW_none, errW_some] <;> rfl)) | (simp [*, errW_none, errW_some] <;> rfl), by repeat (first | (with_reducible first | exact HB.out | apply below_alloc | apply pw_below_drewN | apply below_drew1) | exact HB.out)⟩
                                · rw [if_neg c37] at H
                                  have c37b0 : ((t321.extract 0 ((t320.size : Int) : Int).toNat).toList == t320.toList) = false := beq_eq_false_iff_ne.mpr c37
                                  have c37n : ((t321.extract 0 t320.size).toList == t320.toList) = false := c37b0
                                  have c37b1 : ((t321.extract 0 ((t320.size : Int) : Int).toNat).toList != t320.toList) = true := bne_iff_ne.mpr c37
                                  replace H := Option.bind_eq_some_iff.mp H
                                  obtain ⟨t330, A420, H⟩ := H
                                  replace H : (some t330) = some r := H
                                  have A42 := Aside0.mk A420
                                  clear A420
                                  obtain rfl := Option.some.inj H
                                  go_enter Try.func10, Try.ntmps10
                                  go_wp2_with (first | ((with_reducible refine gate_callee (f := 15) rfl ?_); refine goesL_ (some 24) rfl rfl Try.func15 (by kernel_rfl) rfl #[.string Sji3] rfl (by (try simp only [List.map_toArray, List.map_cons, List.map_nil]); first | done | (simp only [hji3]; rfl) | rfl | (simp only [List.length_drop, List.length_take]; rfl)) ?_; (with_reducible refine (check_Seal.calls k Sji3 t320 _ A9.out).mono ?_); rintro e w43 ⟨rfl, hb⟩; refine ⟨_, rfl, ?_⟩; have n0_ := Aside0.mk (below_step (by repeat (first | (with_reducible first | exact HB.out | apply below_alloc | apply pw_below_drewN | apply below_drew1) | exact HB.out)) hb); clear HB; have HB := n0_; clear n0_; (try clear hb); (try clear hb2); (try clear hk); (try clear hi)) | ((with_reducible refine gate_callee (f := 15) rfl ?_); refine goesL_ (some 26) rfl rfl Try.func15 (by kernel_rfl) rfl #[.string Sji6] rfl (by (try simp only [List.map_toArray, List.map_cons, List.map_nil]); first | done | (simp only [hji6]; rfl) | rfl | (simp only [List.length_drop, List.length_take]; rfl)) ?_; (with_reducible refine (check_Seal.calls k Sji6 t321 _ A10.out).mono ?_); rintro e w44 ⟨rfl, hb⟩; refine ⟨_, rfl, ?_⟩; have n0_ := Aside0.mk (below_step (by repeat (first | (with_reducible first | exact HB.out | apply below_alloc | apply pw_below_drewN | apply below_drew1) | exact HB.out)) hb); clear HB; have HB := n0_; clear n0_; (try clear hb); (try clear hb2); (try clear hk); (try clear hi)) | ((with_reducible refine gate_callee (f := 18) rfl ?_); refine goesL_ (some 31) rfl rfl Try.func18 (by kernel_rfl) rfl #[.string (t320 ++ t321), .int .i64 0] rfl (by (try simp only [List.map_toArray, List.map_cons, List.map_nil]); first | done | rfl | (simp only [List.length_drop, List.length_take]; rfl)) ?_; (with_reducible refine (check_Open.calls k (t320 ++ t321) 0 t322 t323 t324 _ A12.out).mono ?_); rintro e w45 ⟨rfl, hb⟩; refine ⟨_, rfl, ?_⟩; have n0_ := Aside0.mk (below_step (by repeat (first | (with_reducible first | exact HB.out | apply below_alloc | apply pw_below_drewN | apply below_drew1) | exact HB.out)) hb); clear HB; have HB := n0_; clear n0_; (try clear hb); (try clear hb2); (try clear hk); (try clear hi)) | ((with_reducible refine gate_callee (f := 18) rfl ?_); refine goesL_ (some 42) rfl rfl Try.func18 (by kernel_rfl) rfl #[.string (t320.extract 0 ((ji13) : Int).toNat), .int .i64 0] rfl (by (try simp only [List.map_toArray, List.map_cons, List.map_nil]); first | done | (simp only [hji13]; rfl) | rfl | (simp only [List.length_drop, List.length_take]; rfl)) ?_; (with_reducible refine (check_Open.calls k (t320.extract 0 ((ji13) : Int).toNat) 0 t325 t326 t327 _ A16.out).mono ?_); rintro e w46 ⟨rfl, hb⟩; refine ⟨_, rfl, ?_⟩; have n0_ := Aside0.mk (below_step (by repeat (first | (with_reducible first | exact HB.out | apply below_alloc | apply pw_below_drewN | apply below_drew1) | exact HB.out)) hb); clear HB; have HB := n0_; clear n0_; (try clear hb); (try clear hb2); (try clear hk); (try clear hi)) | (go_at_call 17; (with_reducible refine (rivuletlaw02_fixed.calls k  t330 _ A42.out).mono ?_); rintro e w47 ⟨rfl, hb⟩; have n0_ := Aside0.mk (below_step (by repeat (first | (with_reducible first | exact HB.out | apply below_alloc | apply pw_below_drewN | apply below_drew1) | exact HB.out)) hb); clear HB; have HB := n0_; clear n0_; (try clear hb); (try clear hb2); (try clear hk); (try clear hi)))
                                  go_ret
                                  exact ⟨by first | rfl | (simp [errW_none, errW_some] <;> rfl) | (simp only [← hji3, ← hji6, ← hji13]; first | rfl | (simp [errW_none, errW_some] <;> rfl)) | (simp [*, errW_none, errW_some] <;> rfl), by repeat (first | (with_reducible first | exact HB.out | apply below_alloc | apply pw_below_drewN | apply below_drew1) | exact HB.out)⟩
                              · rw [if_neg c36] at H
                                exact absurd H (by simp)
                            · rw [if_neg c35] at H
                              exact absurd H (by simp)
                      · rw [if_neg c20] at H
                        have c20b0 : (t327 == 3) = false := beq_eq_false_iff_ne.mpr c20
                        have c20b1 : (t327 != 3) = true := bne_iff_ne.mpr c20
                        obtain rfl := Option.some.inj H
                        go_enter Try.func10, Try.ntmps10
                        go_wp2_with (first | ((with_reducible refine gate_callee (f := 15) rfl ?_); refine goesL_ (some 24) rfl rfl Try.func15 (by kernel_rfl) rfl #[.string Sji3] rfl (by (try simp only [List.map_toArray, List.map_cons, List.map_nil]); first | done | (simp only [hji3]; rfl) | rfl | (simp only [List.length_drop, List.length_take]; rfl)) ?_; (with_reducible refine (check_Seal.calls k Sji3 t320 _ A9.out).mono ?_); rintro e w48 ⟨rfl, hb⟩; refine ⟨_, rfl, ?_⟩; have n0_ := Aside0.mk (below_step (by repeat (first | (with_reducible first | exact HB.out | apply below_alloc | apply pw_below_drewN | apply below_drew1) | exact HB.out)) hb); clear HB; have HB := n0_; clear n0_; (try clear hb); (try clear hb2); (try clear hk); (try clear hi)) | ((with_reducible refine gate_callee (f := 15) rfl ?_); refine goesL_ (some 26) rfl rfl Try.func15 (by kernel_rfl) rfl #[.string Sji6] rfl (by (try simp only [List.map_toArray, List.map_cons, List.map_nil]); first | done | (simp only [hji6]; rfl) | rfl | (simp only [List.length_drop, List.length_take]; rfl)) ?_; (with_reducible refine (check_Seal.calls k Sji6 t321 _ A10.out).mono ?_); rintro e w49 ⟨rfl, hb⟩; refine ⟨_, rfl, ?_⟩; have n0_ := Aside0.mk (below_step (by repeat (first | (with_reducible first | exact HB.out | apply below_alloc | apply pw_below_drewN | apply below_drew1) | exact HB.out)) hb); clear HB; have HB := n0_; clear n0_; (try clear hb); (try clear hb2); (try clear hk); (try clear hi)) | ((with_reducible refine gate_callee (f := 18) rfl ?_); refine goesL_ (some 31) rfl rfl Try.func18 (by kernel_rfl) rfl #[.string (t320 ++ t321), .int .i64 0] rfl (by (try simp only [List.map_toArray, List.map_cons, List.map_nil]); first | done | rfl | (simp only [List.length_drop, List.length_take]; rfl)) ?_; (with_reducible refine (check_Open.calls k (t320 ++ t321) 0 t322 t323 t324 _ A12.out).mono ?_); rintro e w50 ⟨rfl, hb⟩; refine ⟨_, rfl, ?_⟩; have n0_ := Aside0.mk (below_step (by repeat (first | (with_reducible first | exact HB.out | apply below_alloc | apply pw_below_drewN | apply below_drew1) | exact HB.out)) hb); clear HB; have HB := n0_; clear n0_; (try clear hb); (try clear hb2); (try clear hk); (try clear hi)) | ((with_reducible refine gate_callee (f := 18) rfl ?_); refine goesL_ (some 42) rfl rfl Try.func18 (by kernel_rfl) rfl #[.string (t320.extract 0 ((ji13) : Int).toNat), .int .i64 0] rfl (by (try simp only [List.map_toArray, List.map_cons, List.map_nil]); first | done | (simp only [hji13]; rfl) | rfl | (simp only [List.length_drop, List.length_take]; rfl)) ?_; (with_reducible refine (check_Open.calls k (t320.extract 0 ((ji13) : Int).toNat) 0 t325 t326 t327 _ A16.out).mono ?_); rintro e w51 ⟨rfl, hb⟩; refine ⟨_, rfl, ?_⟩; have n0_ := Aside0.mk (below_step (by repeat (first | (with_reducible first | exact HB.out | apply below_alloc | apply pw_below_drewN | apply below_drew1) | exact HB.out)) hb); clear HB; have HB := n0_; clear n0_; (try clear hb); (try clear hb2); (try clear hk); (try clear hi)))
                        go_ret
                        exact ⟨by first | rfl | (simp [errW_none, errW_some] <;> rfl) | (simp only [← hji3, ← hji6, ← hji13]; first | rfl | (simp [errW_none, errW_some] <;> rfl)) | (simp [*, errW_none, errW_some] <;> rfl), by repeat (first | (with_reducible first | exact HB.out | apply below_alloc | apply pw_below_drewN | apply below_drew1) | exact HB.out)⟩
                    · rw [if_neg c19] at H
                      have c19b0 : (t322.toList == Sji3.toList) = false := beq_eq_false_iff_ne.mpr c19
                      have c19b1 : (t322.toList != Sji3.toList) = true := bne_iff_ne.mpr c19
                      obtain rfl := Option.some.inj H
                      go_enter Try.func10, Try.ntmps10
                      go_wp2_with (first | ((with_reducible refine gate_callee (f := 15) rfl ?_); refine goesL_ (some 24) rfl rfl Try.func15 (by kernel_rfl) rfl #[.string Sji3] rfl (by (try simp only [List.map_toArray, List.map_cons, List.map_nil]); first | done | (simp only [hji3]; rfl) | rfl | (simp only [List.length_drop, List.length_take]; rfl)) ?_; (with_reducible refine (check_Seal.calls k Sji3 t320 _ A9.out).mono ?_); rintro e w52 ⟨rfl, hb⟩; refine ⟨_, rfl, ?_⟩; have n0_ := Aside0.mk (below_step (by repeat (first | (with_reducible first | exact HB.out | apply below_alloc | apply pw_below_drewN | apply below_drew1) | exact HB.out)) hb); clear HB; have HB := n0_; clear n0_; (try clear hb); (try clear hb2); (try clear hk); (try clear hi)) | ((with_reducible refine gate_callee (f := 15) rfl ?_); refine goesL_ (some 26) rfl rfl Try.func15 (by kernel_rfl) rfl #[.string Sji6] rfl (by (try simp only [List.map_toArray, List.map_cons, List.map_nil]); first | done | (simp only [hji6]; rfl) | rfl | (simp only [List.length_drop, List.length_take]; rfl)) ?_; (with_reducible refine (check_Seal.calls k Sji6 t321 _ A10.out).mono ?_); rintro e w53 ⟨rfl, hb⟩; refine ⟨_, rfl, ?_⟩; have n0_ := Aside0.mk (below_step (by repeat (first | (with_reducible first | exact HB.out | apply below_alloc | apply pw_below_drewN | apply below_drew1) | exact HB.out)) hb); clear HB; have HB := n0_; clear n0_; (try clear hb); (try clear hb2); (try clear hk); (try clear hi)) | ((with_reducible refine gate_callee (f := 18) rfl ?_); refine goesL_ (some 31) rfl rfl Try.func18 (by kernel_rfl) rfl #[.string (t320 ++ t321), .int .i64 0] rfl (by (try simp only [List.map_toArray, List.map_cons, List.map_nil]); first | done | rfl | (simp only [List.length_drop, List.length_take]; rfl)) ?_; (with_reducible refine (check_Open.calls k (t320 ++ t321) 0 t322 t323 t324 _ A12.out).mono ?_); rintro e w54 ⟨rfl, hb⟩; refine ⟨_, rfl, ?_⟩; have n0_ := Aside0.mk (below_step (by repeat (first | (with_reducible first | exact HB.out | apply below_alloc | apply pw_below_drewN | apply below_drew1) | exact HB.out)) hb); clear HB; have HB := n0_; clear n0_; (try clear hb); (try clear hb2); (try clear hk); (try clear hi)) | ((with_reducible refine gate_callee (f := 18) rfl ?_); refine goesL_ (some 42) rfl rfl Try.func18 (by kernel_rfl) rfl #[.string (t320.extract 0 ((ji13) : Int).toNat), .int .i64 0] rfl (by (try simp only [List.map_toArray, List.map_cons, List.map_nil]); first | done | (simp only [hji13]; rfl) | rfl | (simp only [List.length_drop, List.length_take]; rfl)) ?_; (with_reducible refine (check_Open.calls k (t320.extract 0 ((ji13) : Int).toNat) 0 t325 t326 t327 _ A16.out).mono ?_); rintro e w55 ⟨rfl, hb⟩; refine ⟨_, rfl, ?_⟩; have n0_ := Aside0.mk (below_step (by repeat (first | (with_reducible first | exact HB.out | apply below_alloc | apply pw_below_drewN | apply below_drew1) | exact HB.out)) hb); clear HB; have HB := n0_; clear n0_; (try clear hb); (try clear hb2); (try clear hk); (try clear hi)))
                      go_ret
                      exact ⟨by first | rfl | (simp [errW_none, errW_some] <;> rfl) | (simp only [← hji3, ← hji6, ← hji13]; first | rfl | (simp [errW_none, errW_some] <;> rfl)) | (simp [*, errW_none, errW_some] <;> rfl), by repeat (first | (with_reducible first | exact HB.out | apply below_alloc | apply pw_below_drewN | apply below_drew1) | exact HB.out)⟩
                  · rw [if_neg c18] at H
                    have c18b0 : (t324 == 0) = false := beq_eq_false_iff_ne.mpr c18
                    have c18b1 : (t324 != 0) = true := bne_iff_ne.mpr c18
                    obtain rfl := Option.some.inj H
                    go_enter Try.func10, Try.ntmps10
                    go_wp2_with (first | ((with_reducible refine gate_callee (f := 15) rfl ?_); refine goesL_ (some 24) rfl rfl Try.func15 (by kernel_rfl) rfl #[.string Sji3] rfl (by (try simp only [List.map_toArray, List.map_cons, List.map_nil]); first | done | (simp only [hji3]; rfl) | rfl | (simp only [List.length_drop, List.length_take]; rfl)) ?_; (with_reducible refine (check_Seal.calls k Sji3 t320 _ A9.out).mono ?_); rintro e w56 ⟨rfl, hb⟩; refine ⟨_, rfl, ?_⟩; have n0_ := Aside0.mk (below_step (by repeat (first | (with_reducible first | exact HB.out | apply below_alloc | apply pw_below_drewN | apply below_drew1) | exact HB.out)) hb); clear HB; have HB := n0_; clear n0_; (try clear hb); (try clear hb2); (try clear hk); (try clear hi)) | ((with_reducible refine gate_callee (f := 15) rfl ?_); refine goesL_ (some 26) rfl rfl Try.func15 (by kernel_rfl) rfl #[.string Sji6] rfl (by (try simp only [List.map_toArray, List.map_cons, List.map_nil]); first | done | (simp only [hji6]; rfl) | rfl | (simp only [List.length_drop, List.length_take]; rfl)) ?_; (with_reducible refine (check_Seal.calls k Sji6 t321 _ A10.out).mono ?_); rintro e w57 ⟨rfl, hb⟩; refine ⟨_, rfl, ?_⟩; have n0_ := Aside0.mk (below_step (by repeat (first | (with_reducible first | exact HB.out | apply below_alloc | apply pw_below_drewN | apply below_drew1) | exact HB.out)) hb); clear HB; have HB := n0_; clear n0_; (try clear hb); (try clear hb2); (try clear hk); (try clear hi)) | ((with_reducible refine gate_callee (f := 18) rfl ?_); refine goesL_ (some 31) rfl rfl Try.func18 (by kernel_rfl) rfl #[.string (t320 ++ t321), .int .i64 0] rfl (by (try simp only [List.map_toArray, List.map_cons, List.map_nil]); first | done | rfl | (simp only [List.length_drop, List.length_take]; rfl)) ?_; (with_reducible refine (check_Open.calls k (t320 ++ t321) 0 t322 t323 t324 _ A12.out).mono ?_); rintro e w58 ⟨rfl, hb⟩; refine ⟨_, rfl, ?_⟩; have n0_ := Aside0.mk (below_step (by repeat (first | (with_reducible first | exact HB.out | apply below_alloc | apply pw_below_drewN | apply below_drew1) | exact HB.out)) hb); clear HB; have HB := n0_; clear n0_; (try clear hb); (try clear hb2); (try clear hk); (try clear hi)) | ((with_reducible refine gate_callee (f := 18) rfl ?_); refine goesL_ (some 42) rfl rfl Try.func18 (by kernel_rfl) rfl #[.string (t320.extract 0 ((ji13) : Int).toNat), .int .i64 0] rfl (by (try simp only [List.map_toArray, List.map_cons, List.map_nil]); first | done | (simp only [hji13]; rfl) | rfl | (simp only [List.length_drop, List.length_take]; rfl)) ?_; (with_reducible refine (check_Open.calls k (t320.extract 0 ((ji13) : Int).toNat) 0 t325 t326 t327 _ A16.out).mono ?_); rintro e w59 ⟨rfl, hb⟩; refine ⟨_, rfl, ?_⟩; have n0_ := Aside0.mk (below_step (by repeat (first | (with_reducible first | exact HB.out | apply below_alloc | apply pw_below_drewN | apply below_drew1) | exact HB.out)) hb); clear HB; have HB := n0_; clear n0_; (try clear hb); (try clear hb2); (try clear hk); (try clear hi)))
                    go_ret
                    exact ⟨by first | rfl | (simp [errW_none, errW_some] <;> rfl) | (simp only [← hji3, ← hji6, ← hji13]; first | rfl | (simp [errW_none, errW_some] <;> rfl)) | (simp [*, errW_none, errW_some] <;> rfl), by repeat (first | (with_reducible first | exact HB.out | apply below_alloc | apply pw_below_drewN | apply below_drew1) | exact HB.out)⟩
                · rw [if_neg c17] at H
                  have c17b0 : ((t320.toList == t321.toList) == (Sji3.toList == Sji6.toList)) = false := by simpa using c17
                  (try (have c17b1 : decide ((t320.toList == t321.toList) = (Sji3.toList == Sji6.toList)) = false := by simpa using c17))
                  (try (have c17b2 : ((t320.toList == t321.toList) == (Sji3.toList == Sji6.toList)) = false := by simpa using c17))
                  (try (have c17b3 : ¬ ((t320.toList == t321.toList) = (Sji3.toList == Sji6.toList)) := by simpa using c17))
                  clear c17
                  obtain rfl := Option.some.inj H
                  go_enter Try.func10, Try.ntmps10
                  go_wp2_with (first | ((with_reducible refine gate_callee (f := 15) rfl ?_); refine goesL_ (some 24) rfl rfl Try.func15 (by kernel_rfl) rfl #[.string Sji3] rfl (by (try simp only [List.map_toArray, List.map_cons, List.map_nil]); first | done | (simp only [hji3]; rfl) | rfl | (simp only [List.length_drop, List.length_take]; rfl)) ?_; (with_reducible refine (check_Seal.calls k Sji3 t320 _ A9.out).mono ?_); rintro e w60 ⟨rfl, hb⟩; refine ⟨_, rfl, ?_⟩; have n0_ := Aside0.mk (below_step (by repeat (first | (with_reducible first | exact HB.out | apply below_alloc | apply pw_below_drewN | apply below_drew1) | exact HB.out)) hb); clear HB; have HB := n0_; clear n0_; (try clear hb); (try clear hb2); (try clear hk); (try clear hi)) | ((with_reducible refine gate_callee (f := 15) rfl ?_); refine goesL_ (some 26) rfl rfl Try.func15 (by kernel_rfl) rfl #[.string Sji6] rfl (by (try simp only [List.map_toArray, List.map_cons, List.map_nil]); first | done | (simp only [hji6]; rfl) | rfl | (simp only [List.length_drop, List.length_take]; rfl)) ?_; (with_reducible refine (check_Seal.calls k Sji6 t321 _ A10.out).mono ?_); rintro e w61 ⟨rfl, hb⟩; refine ⟨_, rfl, ?_⟩; have n0_ := Aside0.mk (below_step (by repeat (first | (with_reducible first | exact HB.out | apply below_alloc | apply pw_below_drewN | apply below_drew1) | exact HB.out)) hb); clear HB; have HB := n0_; clear n0_; (try clear hb); (try clear hb2); (try clear hk); (try clear hi)) | ((with_reducible refine gate_callee (f := 18) rfl ?_); refine goesL_ (some 31) rfl rfl Try.func18 (by kernel_rfl) rfl #[.string (t320 ++ t321), .int .i64 0] rfl (by (try simp only [List.map_toArray, List.map_cons, List.map_nil]); first | done | rfl | (simp only [List.length_drop, List.length_take]; rfl)) ?_; (with_reducible refine (check_Open.calls k (t320 ++ t321) 0 t322 t323 t324 _ A12.out).mono ?_); rintro e w62 ⟨rfl, hb⟩; refine ⟨_, rfl, ?_⟩; have n0_ := Aside0.mk (below_step (by repeat (first | (with_reducible first | exact HB.out | apply below_alloc | apply pw_below_drewN | apply below_drew1) | exact HB.out)) hb); clear HB; have HB := n0_; clear n0_; (try clear hb); (try clear hb2); (try clear hk); (try clear hi)) | ((with_reducible refine gate_callee (f := 18) rfl ?_); refine goesL_ (some 42) rfl rfl Try.func18 (by kernel_rfl) rfl #[.string (t320.extract 0 ((ji13) : Int).toNat), .int .i64 0] rfl (by (try simp only [List.map_toArray, List.map_cons, List.map_nil]); first | done | (simp only [hji13]; rfl) | rfl | (simp only [List.length_drop, List.length_take]; rfl)) ?_; (with_reducible refine (check_Open.calls k (t320.extract 0 ((ji13) : Int).toNat) 0 t325 t326 t327 _ A16.out).mono ?_); rintro e w63 ⟨rfl, hb⟩; refine ⟨_, rfl, ?_⟩; have n0_ := Aside0.mk (below_step (by repeat (first | (with_reducible first | exact HB.out | apply below_alloc | apply pw_below_drewN | apply below_drew1) | exact HB.out)) hb); clear HB; have HB := n0_; clear n0_; (try clear hb); (try clear hb2); (try clear hk); (try clear hi)))
                  go_ret
                  exact ⟨by first | rfl | (simp [errW_none, errW_some] <;> rfl) | (simp only [← hji3, ← hji6, ← hji13]; first | rfl | (simp [errW_none, errW_some] <;> rfl)) | (simp [*, errW_none, errW_some] <;> rfl), by repeat (first | (with_reducible first | exact HB.out | apply below_alloc | apply pw_below_drewN | apply below_drew1) | exact HB.out)⟩
              · rw [if_neg c15] at H
                exact absurd H (by simp)
            · rw [if_neg c14] at H
              exact absurd H (by simp)
          · rw [if_neg c11] at H
            exact absurd H (by simp)
        · rw [if_neg c8] at H
          exact absurd H (by simp)
      · rw [if_neg c7] at H
        exact absurd H (by simp)
    · rw [if_neg c5] at H
      exact absurd H (by simp)
  · rw [if_neg c4] at H
    exact absurd H (by simp)

/-- THE ONE PURE STATEMENT of rivuletlaw02_CheckTexts: yours. -/
def rivuletlaw02_CheckTexts.Pure : Prop := ∀ (a0 : ByteArray) (a1 : ByteArray), a0.size ≤ 140737488351232 → a1.size ≤ 140737488351232 → ∃ k, rivuletlaw02_CheckTexts.f k a0 a1 = some true
theorem rivuletlaw02_CheckTexts.walk (P : rivuletlaw02_CheckTexts.Pure) (a0 : ByteArray) (a1 : ByteArray) (w : World) (w0 : a0.size ≤ 140737488351232) (w1 : a1.size ≤ 140737488351232) :
    Calls Try.prog 10 #[.string a0, .string a1] w fun e w' => e = .returned (.bool true) ∧ Below w.heap.size w w' := by
  obtain ⟨k, h⟩ := P a0 a1 w0 w1
  refine (rivuletlaw02_CheckTexts.calls k a0 a1 true w h).mono ?_
  rintro e w' ⟨rfl, hd⟩
  exact ⟨rfl, hd⟩

end Go.Proofs.Ythincnfcekcdaaa.Pr
