-- Printed by this session's changed copy of the kit's printer (wip/tools/mkprint.py; some functions are given by hand). Lean checks it.
import Derived.Test.YtfakimleoihfgaaDoorPr0
import Derived.Test.YtfakimleoihfgaaDoorPr1
namespace Go.Proofs.YtfakimleoihfgaaDoor.Pr
open Go.RowKit Go.Proofs.YtfakimleoihfgaaDoorW.PrintWords Go.Proofs.YtfakimleoihfgaaDoorW.PrintLast Go.Proofs.YtfakimleoihfgaaDoorW.PrintMore
attribute [local go_sem] max2_int min2_int max_two min_two max_three min_three max_four min_four   -- for this text's walks alone
set_option linter.unusedVariables false
set_option linter.unusedSimpArgs false

/-! ### rivuletlaw03_TopicRest: function 10 -/
mutual
def rivuletlaw03_TopicRest.j0 : Nat → ByteArray → ByteArray → ByteArray → Bool → Option (Bool)
  | 0, _, _, _, _ => none
  | k + 1, x0, x1, x5, x29 => if x29 = true then ((topic_Match.f x5 x1).bind fun t295 => (if t295 = true then (some false) else ((rivuletlaw03_fixed.f).bind fun t296 => (some t296)))) else ((rivuletref03_Levels.f k x1).bind fun t297 => (rivuletlaw03_TopicRest.l0 k x0 x1 x5 t297 false (⟨#[]⟩ : ByteArray) 0))
def rivuletlaw03_TopicRest.l0 : Nat → ByteArray → ByteArray → ByteArray → List ByteArray → Bool → ByteArray → Int → Option (Bool)
  | 0, _, _, _, _, _, _, _ => none
  | k + 1, x0, x1, x5, x6, x7, x8, x9 => if x9 < (x6.length : Int) then (if x9 > 0 then (if x8.size + 1 ≤ 9223372036854775807 then (if 0 ≤ x9 then (if (x8 ++ (⟨#[47]⟩ : ByteArray)).size + (rdOf ByteArray.empty x6 x9).size ≤ 9223372036854775807 then (if x7 = true then (rivuletlaw03_TopicRest.l0 k x0 x1 x5 x6 true ((x8 ++ (⟨#[47]⟩ : ByteArray)) ++ (rdOf ByteArray.empty x6 x9)) (wrap64 (x9 + 1))) else ((topic_Match.f x0 ((x8 ++ (⟨#[47]⟩ : ByteArray)) ++ (rdOf ByteArray.empty x6 x9))).bind fun t301 => (rivuletlaw03_TopicRest.l0 k x0 x1 x5 x6 t301 ((x8 ++ (⟨#[47]⟩ : ByteArray)) ++ (rdOf ByteArray.empty x6 x9)) (wrap64 (x9 + 1))))) else (none)) else (none)) else (none)) else (if 0 ≤ x9 then (if x8.size + (rdOf ByteArray.empty x6 x9).size ≤ 9223372036854775807 then (if x7 = true then (rivuletlaw03_TopicRest.l0 k x0 x1 x5 x6 true (x8 ++ (rdOf ByteArray.empty x6 x9)) (wrap64 (x9 + 1))) else ((topic_Match.f x0 (x8 ++ (rdOf ByteArray.empty x6 x9))).bind fun t303 => (rivuletlaw03_TopicRest.l0 k x0 x1 x5 x6 t303 (x8 ++ (rdOf ByteArray.empty x6 x9)) (wrap64 (x9 + 1))))) else (none)) else (none))) else ((topic_Match.f x5 x1).bind fun t304 => (if x7 = true then ((topic_Right.f x1).bind fun t305 => (if (t304 == t305) = true then ((topic_Covers.f x5 x0).bind fun t306 => (if t306 = true then ((topic_Covers.f x5 x5).bind fun t307 => (if t307 = true then ((rivuletlaw03_fixed.f).bind fun t308 => (some t308)) else (some false))) else (some false))) else (some false))) else (if (t304 == false) = true then ((topic_Covers.f x5 x0).bind fun t309 => (if t309 = true then ((topic_Covers.f x5 x5).bind fun t310 => (if t310 = true then ((rivuletlaw03_fixed.f).bind fun t311 => (some t311)) else (some false))) else (some false))) else (some false))))
end
def rivuletlaw03_TopicRest.f (k : Nat) (a0 : ByteArray) (a1 : ByteArray) : Option (Bool) := if 0 ≤ (mn (a0.size : Int) 150) then (if (mn (a0.size : Int) 150) ≤ (a0.size : Int) then (if 0 ≤ (mn (a1.size : Int) 150) then (if (mn (a1.size : Int) 150) ≤ (a1.size : Int) then (if (a0.extract 0 ((mn (a0.size : Int) 150) : Int).toNat).size + 2 ≤ 9223372036854775807 then ((topic_Filter.f ((a0.extract 0 ((mn (a0.size : Int) 150) : Int).toNat) ++ (⟨#[47, 35]⟩ : ByteArray))).bind fun t293 => (if t293 = true then ((topic_Filter.f (a0.extract 0 ((mn (a0.size : Int) 150) : Int).toNat)).bind fun t294 => (rivuletlaw03_TopicRest.j0 k (a0.extract 0 ((mn (a0.size : Int) 150) : Int).toNat) (a1.extract 0 ((mn (a1.size : Int) 150) : Int).toNat) ((a0.extract 0 ((mn (a0.size : Int) 150) : Int).toNat) ++ (⟨#[47, 35]⟩ : ByteArray)) (!t294))) else (rivuletlaw03_TopicRest.j0 k (a0.extract 0 ((mn (a0.size : Int) 150) : Int).toNat) (a1.extract 0 ((mn (a1.size : Int) 150) : Int).toNat) ((a0.extract 0 ((mn (a0.size : Int) 150) : Int).toNat) ++ (⟨#[47, 35]⟩ : ByteArray)) true))) else (none)) else (none)) else (none)) else (none)) else (none)
theorem rivuletlaw03_TopicRest.mono_l : ∀ k, (∀ y0 y1 y2 y3, LeO (rivuletlaw03_TopicRest.j0 k y0 y1 y2 y3) (rivuletlaw03_TopicRest.j0 (k + 1) y0 y1 y2 y3)) ∧ (∀ y0 y1 y2 y3 y4 y5 y6, LeO (rivuletlaw03_TopicRest.l0 k y0 y1 y2 y3 y4 y5 y6) (rivuletlaw03_TopicRest.l0 (k + 1) y0 y1 y2 y3 y4 y5 y6))
  | 0 => ⟨fun _ _ _ _ r h => by simp [rivuletlaw03_TopicRest.j0] at h, fun _ _ _ _ _ _ _ r h => by simp [rivuletlaw03_TopicRest.l0] at h⟩
  | k + 1 => by
    obtain ⟨ih0, ih1⟩ := rivuletlaw03_TopicRest.mono_l k
    refine ⟨?_, ?_⟩
    · intro y0 y1 y2 y3
      unfold rivuletlaw03_TopicRest.j0
      repeat' first
      | (with_reducible exact ih0 _ _ _ _)
      | (with_reducible exact ih1 _ _ _ _ _ _ _)
      | (with_reducible exact rivuletref03_Levels.mono _ _)
      | (with_reducible exact LeO.refl _)
      | (with_reducible exact LeO.none _)
      | (with_reducible refine LeO.ite ?_ ?_)
      | (with_reducible refine LeO.bind ?_ (fun _ => ?_))
      | exact ih0 _ _ _ _
      | exact ih1 _ _ _ _ _ _ _
      | exact rivuletref03_Levels.mono _ _
      | exact LeO.none _
      | refine LeO.ite ?_ ?_
      | refine LeO.bind ?_ (fun _ => ?_)
    · intro y0 y1 y2 y3 y4 y5 y6
      unfold rivuletlaw03_TopicRest.l0
      repeat' first
      | (with_reducible exact ih0 _ _ _ _)
      | (with_reducible exact ih1 _ _ _ _ _ _ _)
      | (with_reducible exact rivuletref03_Levels.mono _ _)
      | (with_reducible exact LeO.refl _)
      | (with_reducible exact LeO.none _)
      | (with_reducible refine LeO.ite ?_ ?_)
      | (with_reducible refine LeO.bind ?_ (fun _ => ?_))
      | exact ih0 _ _ _ _
      | exact ih1 _ _ _ _ _ _ _
      | exact rivuletref03_Levels.mono _ _
      | exact LeO.none _
      | refine LeO.ite ?_ ?_
      | refine LeO.bind ?_ (fun _ => ?_)
theorem rivuletlaw03_TopicRest.mono : ∀ a0 a1 k, LeO (rivuletlaw03_TopicRest.f k a0 a1) (rivuletlaw03_TopicRest.f (k + 1) a0 a1) := by
  intro a0 a1 k
  obtain ⟨ih0, ih1⟩ := rivuletlaw03_TopicRest.mono_l k
  unfold rivuletlaw03_TopicRest.f
  repeat' first
      | (with_reducible exact ih0 _ _ _ _)
      | (with_reducible exact ih1 _ _ _ _ _ _ _)
      | (with_reducible exact rivuletref03_Levels.mono _ _)
      | (with_reducible exact LeO.refl _)
      | (with_reducible exact LeO.none _)
      | (with_reducible refine LeO.ite ?_ ?_)
      | (with_reducible refine LeO.bind ?_ (fun _ => ?_))
      | exact ih0 _ _ _ _
      | exact ih1 _ _ _ _ _ _ _
      | exact rivuletref03_Levels.mono _ _
      | exact LeO.none _
      | refine LeO.ite ?_ ?_
      | refine LeO.bind ?_ (fun _ => ?_)
set_option maxHeartbeats 8000000 in
set_option maxRecDepth 100000 in
theorem rivuletlaw03_TopicRest.calls (k : Nat) (a0 : ByteArray) (a1 : ByteArray) (r : Bool) (w : World) (h : rivuletlaw03_TopicRest.f k a0 a1 = some r) :
    Calls Tryd.prog 10 #[.string a0, .string a1] w fun e w' => e = .returned (.bool r) ∧ Below w.heap.size w w' := by
  have HB := Aside0.mk (Below.refl w.heap.size w)
  have H : (if 0 ≤ (mn (a0.size : Int) 150) then (if (mn (a0.size : Int) 150) ≤ (a0.size : Int) then (if 0 ≤ (mn (a1.size : Int) 150) then (if (mn (a1.size : Int) 150) ≤ (a1.size : Int) then (if (a0.extract 0 ((mn (a0.size : Int) 150) : Int).toNat).size + 2 ≤ 9223372036854775807 then ((topic_Filter.f ((a0.extract 0 ((mn (a0.size : Int) 150) : Int).toNat) ++ (⟨#[47, 35]⟩ : ByteArray))).bind fun t293 => (if t293 = true then ((topic_Filter.f (a0.extract 0 ((mn (a0.size : Int) 150) : Int).toNat)).bind fun t294 => (rivuletlaw03_TopicRest.j0 k (a0.extract 0 ((mn (a0.size : Int) 150) : Int).toNat) (a1.extract 0 ((mn (a1.size : Int) 150) : Int).toNat) ((a0.extract 0 ((mn (a0.size : Int) 150) : Int).toNat) ++ (⟨#[47, 35]⟩ : ByteArray)) (!t294))) else (rivuletlaw03_TopicRest.j0 k (a0.extract 0 ((mn (a0.size : Int) 150) : Int).toNat) (a1.extract 0 ((mn (a1.size : Int) 150) : Int).toNat) ((a0.extract 0 ((mn (a0.size : Int) 150) : Int).toNat) ++ (⟨#[47, 35]⟩ : ByteArray)) true))) else (none)) else (none)) else (none)) else (none)) else (none)) = some r := h
  clear h
  obtain ⟨ji3, hji3⟩ : ∃ j_ : Int, (mn (a0.size : Int) 150) = j_ := ⟨_, rfl⟩
  replace H : (if 0 ≤ (ji3) then (if (ji3) ≤ (a0.size : Int) then (if 0 ≤ (mn (a1.size : Int) 150) then (if (mn (a1.size : Int) 150) ≤ (a1.size : Int) then (if (a0.extract 0 ((ji3) : Int).toNat).size + 2 ≤ 9223372036854775807 then ((topic_Filter.f ((a0.extract 0 ((ji3) : Int).toNat) ++ (⟨#[47, 35]⟩ : ByteArray))).bind fun t293 => (if t293 = true then ((topic_Filter.f (a0.extract 0 ((ji3) : Int).toNat)).bind fun t294 => (rivuletlaw03_TopicRest.j0 k (a0.extract 0 ((ji3) : Int).toNat) (a1.extract 0 ((mn (a1.size : Int) 150) : Int).toNat) ((a0.extract 0 ((ji3) : Int).toNat) ++ (⟨#[47, 35]⟩ : ByteArray)) (!t294))) else (rivuletlaw03_TopicRest.j0 k (a0.extract 0 ((ji3) : Int).toNat) (a1.extract 0 ((mn (a1.size : Int) 150) : Int).toNat) ((a0.extract 0 ((ji3) : Int).toNat) ++ (⟨#[47, 35]⟩ : ByteArray)) true))) else (none)) else (none)) else (none)) else (none)) else (none)) = some r := by first | (rw [hji3] at H; exact H) | (simp only [hji3] at H ⊢; exact H)
  (try (have hji3h : ji3 ≤ 150 := by (rw [← hji3]; unfold mn; (repeat' split) <;> omega)))
  (try (have hji3g : ji3 ≤ 64 := by omega))
  (try (have hji3l : 0 ≤ ji3 := by (rw [← hji3]; unfold mn; (repeat' split) <;> omega)))
  (try (have hji3m : 0 ≤ ji3 := by omega))
  have hji3_ : (if 150 < (a0.size : Int) then 150 else (a0.size : Int)) = ji3 := hji3
  obtain ⟨Sji3, hSji3⟩ : ∃ S_ : ByteArray, a0.extract 0 (ji3 : Int).toNat = S_ := ⟨_, rfl⟩
  simp only [hSji3] at H
  by_cases c4 : 0 ≤ (ji3)
  · rw [if_pos c4] at H
    have c4b0 := eq_true c4
    have c4b1 : decide (0 ≤ (ji3)) = true := decide_eq_true c4
    clear c4
    by_cases c5 : (ji3) ≤ (a0.size : Int)
    · rw [if_pos c5] at H
      have c5b0 := eq_true c5
      have c5b1 : decide ((ji3) ≤ (a0.size : Int)) = true := decide_eq_true c5
      clear c5
      obtain ⟨ji6, hji6⟩ : ∃ j_ : Int, (mn (a1.size : Int) 150) = j_ := ⟨_, rfl⟩
      replace H : (if 0 ≤ (ji6) then (if (ji6) ≤ (a1.size : Int) then (if Sji3.size + 2 ≤ 9223372036854775807 then ((topic_Filter.f (Sji3 ++ (⟨#[47, 35]⟩ : ByteArray))).bind fun t293 => (if t293 = true then ((topic_Filter.f Sji3).bind fun t294 => (rivuletlaw03_TopicRest.j0 k Sji3 (a1.extract 0 ((ji6) : Int).toNat) (Sji3 ++ (⟨#[47, 35]⟩ : ByteArray)) (!t294))) else (rivuletlaw03_TopicRest.j0 k Sji3 (a1.extract 0 ((ji6) : Int).toNat) (Sji3 ++ (⟨#[47, 35]⟩ : ByteArray)) true))) else (none)) else (none)) else (none)) = some r := by first | (rw [hji6] at H; exact H) | (simp only [hji6] at H ⊢; exact H)
      (try (have hji6h : ji6 ≤ 150 := by (rw [← hji6]; unfold mn; (repeat' split) <;> omega)))
      (try (have hji6g : ji6 ≤ 64 := by omega))
      (try (have hji6l : 0 ≤ ji6 := by (rw [← hji6]; unfold mn; (repeat' split) <;> omega)))
      (try (have hji6m : 0 ≤ ji6 := by omega))
      have hji6_ : (if 150 < (a1.size : Int) then 150 else (a1.size : Int)) = ji6 := hji6
      obtain ⟨Sji6, hSji6⟩ : ∃ S_ : ByteArray, a1.extract 0 (ji6 : Int).toNat = S_ := ⟨_, rfl⟩
      simp only [hSji6] at H
      by_cases c7 : 0 ≤ (ji6)
      · rw [if_pos c7] at H
        have c7b0 := eq_true c7
        have c7b1 : decide (0 ≤ (ji6)) = true := decide_eq_true c7
        clear c7
        by_cases c8 : (ji6) ≤ (a1.size : Int)
        · rw [if_pos c8] at H
          have c8b0 := eq_true c8
          have c8b1 : decide ((ji6) ≤ (a1.size : Int)) = true := decide_eq_true c8
          clear c8
          by_cases c9 : Sji3.size + 2 ≤ 9223372036854775807
          · rw [if_pos c9] at H
            have c9b0 := eq_true c9
            have c9b1 : decide (Sji3.size + 2 ≤ 9223372036854775807) = true := decide_eq_true c9
            try have c9b2 : (9223372036854775807 < Sji3.size + 2) = False := eq_false (Nat.not_lt.2 c9)
            have HC10 := Aside0.mk H
            clear H
            go_enter Tryd.func10, Tryd.ntmps10
            go_upto_region 4 with (fail)
            go_cut [29] (fun v29 wc => ∃ (kq : Nat) (x29_9 : Bool), v29 = .bool x29_9 ∧ Aside0 (rivuletlaw03_TopicRest.j0 kq Sji3 Sji6 (Sji3 ++ (⟨#[47, 35]⟩ : ByteArray)) x29_9 = some r) ∧ Aside0 (kq ≤ k) ∧ Aside0 (Below w.heap.size w wc))
            case first =>
              have H := HC10.out
              clear HC10
              replace H := Option.bind_eq_some_iff.mp H
              obtain ⟨t293, A110, H⟩ := H
              replace H : (if t293 = true then ((topic_Filter.f Sji3).bind fun t294 => (rivuletlaw03_TopicRest.j0 k Sji3 Sji6 (Sji3 ++ (⟨#[47, 35]⟩ : ByteArray)) (!t294))) else (rivuletlaw03_TopicRest.j0 k Sji3 Sji6 (Sji3 ++ (⟨#[47, 35]⟩ : ByteArray)) true)) = some r := H
              have A11 := Aside0.mk A110
              clear A110
              by_cases c12 : t293 = true
              · subst c12
                have H1 : ((topic_Filter.f Sji3).bind fun t294 => (rivuletlaw03_TopicRest.j0 k Sji3 Sji6 (Sji3 ++ (⟨#[47, 35]⟩ : ByteArray)) (!t294))) = some r := by rw [if_pos rfl] at H; exact H
                clear H
                have H := H1
                clear H1
                replace H := Option.bind_eq_some_iff.mp H
                obtain ⟨t294, A130, H⟩ := H
                replace H : (rivuletlaw03_TopicRest.j0 k Sji3 Sji6 (Sji3 ++ (⟨#[47, 35]⟩ : ByteArray)) (!t294)) = some r := H
                have A13 := Aside0.mk A130
                clear A130
                have H' := Aside0.mk H
                clear H
                go_wp2_with (first | ((with_reducible refine gate_callee (f := 13) rfl ?_); refine goesL_ (some 23) rfl rfl Tryd.func13 (by kernel_rfl) rfl #[.string (Sji3 ++ (⟨#[47, 35]⟩ : ByteArray))] rfl (by (try simp only [List.map_toArray, List.map_cons, List.map_nil]); first | done | (simp only [hji3]; rfl) | rfl | (simp only [List.length_drop, List.length_take]; rfl)) ?_; (with_reducible refine (topic_Filter.calls (Sji3 ++ (⟨#[47, 35]⟩ : ByteArray)) true _ A11.out).mono ?_); rintro e w14 ⟨rfl, hb⟩; refine ⟨_, rfl, ?_⟩; have n0_ := Aside0.mk (below_step (by repeat (first | (with_reducible first | exact HB.out | apply below_alloc | apply pw_below_drewN | apply below_drew1) | exact HB.out)) hb); clear HB; have HB := n0_; clear n0_; (try clear hb); (try clear hb2); (try clear hk); (try clear hi)) | (go_at_call 13; (with_reducible refine (topic_Filter.calls Sji3 t294 _ A13.out).mono ?_); rintro e w15 ⟨rfl, hb⟩; have n0_ := Aside0.mk (below_step (by repeat (first | (with_reducible first | exact HB.out | apply below_alloc | apply pw_below_drewN | apply below_drew1) | exact HB.out)) hb); clear HB; have HB := n0_; clear n0_; (try clear hb); (try clear hb2); (try clear hk); (try clear hi)))
                go_meet
                case rel => exact ⟨_, (!t294), (by first | rfl | (simp; done) | (simp [*]; done)), H', ⟨by first | omega | exact Nat.le_refl _⟩, ⟨by repeat (first | (with_reducible first | exact HB.out | apply below_alloc | apply pw_below_drewN | apply below_drew1) | exact HB.out)⟩⟩
              · replace c12 := Bool.eq_false_iff.mpr c12
                subst c12
                have H1 : (rivuletlaw03_TopicRest.j0 k Sji3 Sji6 (Sji3 ++ (⟨#[47, 35]⟩ : ByteArray)) true) = some r := by rw [if_neg (show ¬ (false = true) by decide)] at H; exact H
                clear H
                have H := H1
                clear H1
                have H' := Aside0.mk H
                clear H
                go_wp2_with (first | ((with_reducible refine gate_callee (f := 13) rfl ?_); refine goesL_ (some 23) rfl rfl Tryd.func13 (by kernel_rfl) rfl #[.string (Sji3 ++ (⟨#[47, 35]⟩ : ByteArray))] rfl (by (try simp only [List.map_toArray, List.map_cons, List.map_nil]); first | done | (simp only [hji3]; rfl) | rfl | (simp only [List.length_drop, List.length_take]; rfl)) ?_; (with_reducible refine (topic_Filter.calls (Sji3 ++ (⟨#[47, 35]⟩ : ByteArray)) false _ A11.out).mono ?_); rintro e w16 ⟨rfl, hb⟩; refine ⟨_, rfl, ?_⟩; have n0_ := Aside0.mk (below_step (by repeat (first | (with_reducible first | exact HB.out | apply below_alloc | apply pw_below_drewN | apply below_drew1) | exact HB.out)) hb); clear HB; have HB := n0_; clear n0_; (try clear hb); (try clear hb2); (try clear hk); (try clear hi)))
                go_meet
                case rel => exact ⟨_, (true), (by first | rfl | (simp; done) | (simp [*]; done)), H', ⟨by first | omega | exact Nat.le_refl _⟩, ⟨by repeat (first | (with_reducible first | exact HB.out | apply below_alloc | apply pw_below_drewN | apply below_drew1) | exact HB.out)⟩⟩
            case rest =>
              clear HC10
              try clear c1
              try clear p2
              try clear c4
              try clear c4b0
              try clear c4b1
              try clear c5
              try clear c5b0
              try clear c5b1
              try clear c7
              try clear c7b0
              try clear c7b1
              try clear c8
              try clear c8b0
              try clear c8b1
              try clear c9
              try clear c9b0
              try clear c9b1
              try clear c9b2
              try clear c10
              try clear c12
              try clear c13
              obtain ⟨kq, x29_9, rfl, HA, HJ9, HB⟩ := hcut
              cases kq with
              | zero => exact absurd HA.out (by simp [rivuletlaw03_TopicRest.j0])
              | succ kj9 =>
                have H := HA.out
                clear HA
                simp only [rivuletlaw03_TopicRest.j0] at H
                by_cases c17 : x29_9 = true
                · subst c17
                  have H1 : ((topic_Match.f (Sji3 ++ (⟨#[47, 35]⟩ : ByteArray)) Sji6).bind fun t295 => (if t295 = true then (some false) else ((rivuletlaw03_fixed.f).bind fun t296 => (some t296)))) = some r := by rw [if_pos rfl] at H; exact H
                  clear H
                  have H := H1
                  clear H1
                  replace H := Option.bind_eq_some_iff.mp H
                  obtain ⟨t295, A180, H⟩ := H
                  replace H : (if t295 = true then (some false) else ((rivuletlaw03_fixed.f).bind fun t296 => (some t296))) = some r := H
                  have A18 := Aside0.mk A180
                  clear A180
                  by_cases c19 : t295 = true
                  · subst c19
                    have H1 : (some false) = some r := by rw [if_pos rfl] at H; exact H
                    clear H
                    have H := H1
                    clear H1
                    obtain rfl := Option.some.inj H
                    go_wp2_with (first | ((with_reducible refine gate_callee (f := 21) rfl ?_); refine goesL_ (some 32) rfl rfl Tryd.func21 (by kernel_rfl) rfl #[.string (Sji3 ++ (⟨#[47, 35]⟩ : ByteArray)), .string Sji6] rfl (by (try simp only [List.map_toArray, List.map_cons, List.map_nil]); first | done | (simp only [hji3, hji6]; rfl) | rfl | (simp only [List.length_drop, List.length_take]; rfl)) ?_; (with_reducible refine (topic_Match.calls (Sji3 ++ (⟨#[47, 35]⟩ : ByteArray)) Sji6 true _ A18.out).mono ?_); rintro e w20 ⟨rfl, hb⟩; refine ⟨_, rfl, ?_⟩; have n0_ := Aside0.mk (below_step (by repeat (first | (with_reducible first | exact HB.out | apply below_alloc | apply pw_below_drewN | apply below_drew1) | exact HB.out)) hb); clear HB; have HB := n0_; clear n0_; (try clear hb); (try clear hb2); (try clear hk); (try clear hi)))
                    go_ret
                    exact ⟨by first | rfl | (simp [errW_none, errW_some] <;> rfl) | (simp only [← hji3, ← hji6]; first | rfl | (simp [errW_none, errW_some] <;> rfl)) | (simp [*, errW_none, errW_some] <;> rfl), by repeat (first | (with_reducible first | exact HB.out | apply below_alloc | apply pw_below_drewN | apply below_drew1) | exact HB.out)⟩
                  · replace c19 := Bool.eq_false_iff.mpr c19
                    subst c19
                    have H1 : ((rivuletlaw03_fixed.f).bind fun t296 => (some t296)) = some r := by rw [if_neg (show ¬ (false = true) by decide)] at H; exact H
                    clear H
                    have H := H1
                    clear H1
                    replace H := Option.bind_eq_some_iff.mp H
                    obtain ⟨t296, A210, H⟩ := H
                    replace H : (some t296) = some r := H
                    have A21 := Aside0.mk A210
                    clear A210
                    obtain rfl := Option.some.inj H
                    go_wp2_with (first | ((with_reducible refine gate_callee (f := 21) rfl ?_); refine goesL_ (some 32) rfl rfl Tryd.func21 (by kernel_rfl) rfl #[.string (Sji3 ++ (⟨#[47, 35]⟩ : ByteArray)), .string Sji6] rfl (by (try simp only [List.map_toArray, List.map_cons, List.map_nil]); first | done | (simp only [hji3, hji6]; rfl) | rfl | (simp only [List.length_drop, List.length_take]; rfl)) ?_; (with_reducible refine (topic_Match.calls (Sji3 ++ (⟨#[47, 35]⟩ : ByteArray)) Sji6 false _ A18.out).mono ?_); rintro e w22 ⟨rfl, hb⟩; refine ⟨_, rfl, ?_⟩; have n0_ := Aside0.mk (below_step (by repeat (first | (with_reducible first | exact HB.out | apply below_alloc | apply pw_below_drewN | apply below_drew1) | exact HB.out)) hb); clear HB; have HB := n0_; clear n0_; (try clear hb); (try clear hb2); (try clear hk); (try clear hi)) | (go_at_call 20; (with_reducible refine (rivuletlaw03_fixed.calls  t296 _ A21.out).mono ?_); rintro e w23 ⟨rfl, hb⟩; have n0_ := Aside0.mk (below_step (by repeat (first | (with_reducible first | exact HB.out | apply below_alloc | apply pw_below_drewN | apply below_drew1) | exact HB.out)) hb); clear HB; have HB := n0_; clear n0_; (try clear hb); (try clear hb2); (try clear hk); (try clear hi)))
                    go_ret
                    exact ⟨by first | rfl | (simp [errW_none, errW_some] <;> rfl) | (simp only [← hji3, ← hji6]; first | rfl | (simp [errW_none, errW_some] <;> rfl)) | (simp [*, errW_none, errW_some] <;> rfl), by repeat (first | (with_reducible first | exact HB.out | apply below_alloc | apply pw_below_drewN | apply below_drew1) | exact HB.out)⟩
                · replace c17 := Bool.eq_false_iff.mpr c17
                  subst c17
                  have H1 : ((rivuletref03_Levels.f kj9 Sji6).bind fun t297 => (rivuletlaw03_TopicRest.l0 kj9 Sji3 Sji6 (Sji3 ++ (⟨#[47, 35]⟩ : ByteArray)) t297 false (⟨#[]⟩ : ByteArray) 0)) = some r := by rw [if_neg (show ¬ (false = true) by decide)] at H; exact H
                  clear H
                  have H := H1
                  clear H1
                  replace H := Option.bind_eq_some_iff.mp H
                  obtain ⟨t297, A240, H⟩ := H
                  replace H : (rivuletlaw03_TopicRest.l0 kj9 Sji3 Sji6 (Sji3 ++ (⟨#[47, 35]⟩ : ByteArray)) t297 false (⟨#[]⟩ : ByteArray) 0) = some r := H
                  have A24 := Aside0.mk A240
                  clear A240
                  have H' := Aside0.mk H
                  clear H
                  go_wp2_with (first | ((with_reducible refine gate_callee (f := 17) rfl ?_); refine goesL_ (some 38) rfl rfl Tryd.func17 (by kernel_rfl) rfl #[.string Sji6] rfl (by (try simp only [List.map_toArray, List.map_cons, List.map_nil]); first | done | (simp only [hji6]; rfl) | rfl | (simp only [List.length_drop, List.length_take]; rfl)) ?_; (with_reducible refine (rivuletref03_Levels.calls kj9 Sji6 t297 _ A24.out).mono ?_); rintro e w25 ⟨v298, rfl, ho0, hb⟩; refine ⟨_, rfl, ?_⟩; have n0_ := Aside0.mk (Kd.R_lower ho0 (below_size (by repeat (first | (with_reducible first | exact HB.out | apply below_alloc | apply pw_below_drewN | apply below_drew1) | exact HB.out)))); have n1_ := Aside0.mk (below_step (by repeat (first | (with_reducible first | exact HB.out | apply below_alloc | apply pw_below_drewN | apply below_drew1) | exact HB.out)) hb); clear HB; have HO299 := n0_; have HB := n1_; clear n0_ n1_; (try clear hb); (try clear hb2); (try clear hk); (try clear hi); (try clear ho0)))
                  go_loopg [7, 8, 9] kj9 (fun kq v7 v8 v9 w' => ∃ (x7_2 : Bool) (x8_2 : ByteArray) (x9_2 : Int), v7 = .bool x7_2 ∧ v8 = .string x8_2 ∧ v9 = .int .i64 x9_2 ∧ Aside0 (rivuletlaw03_TopicRest.l0 kq Sji3 Sji6 (Sji3 ++ (⟨#[47, 35]⟩ : ByteArray)) t297 x7_2 x8_2 x9_2 = some r) ∧ Aside0 (kq ≤ kj9) ∧ Aside0 (Kd.R Kd.string 9 w' w.heap.size (fun _ => True) v298 t297) ∧ Aside0 (Below w.heap.size w w'))
                  case atStart => exact ⟨(false), ((⟨#[]⟩ : ByteArray)), (0), (by first | rfl | (simp; done) | (simp [*]; done)), (by first | rfl | (simp; done) | (simp [*]; done)), (by first | rfl | (simp; done) | (simp [*]; done)), H', ⟨Nat.le_refl _⟩, ⟨by (with_reducible repeat (first | apply Kd.R_alloc | apply Kd.R_drewN | apply Kd.R_drew)); exact HO299.out⟩, ⟨by repeat (first | (with_reducible first | exact HB.out | apply below_alloc | apply pw_below_drewN | apply below_drew1) | exact HB.out)⟩⟩
                  case round =>
                    clear H'
                    try clear c1
                    try clear c2
                    try clear p2
                    try clear c4
                    try clear c4b0
                    try clear c4b1
                    try clear c5
                    try clear c5b0
                    try clear c5b1
                    try clear c7
                    try clear c7b0
                    try clear c7b1
                    try clear c8
                    try clear c8b0
                    try clear c8b1
                    try clear c9
                    try clear c9b0
                    try clear c9b1
                    try clear c9b2
                    try clear c10
                    try clear c12
                    try clear c13
                    try clear c17
                    try clear c19
                    try clear c21
                    try clear p2
                    obtain ⟨x7_2, x8_2, x9_2, rfl, rfl, rfl, HA, HK2, HO_6, HB⟩ := hrel
                    cases gk with
                    | zero => exact absurd HA.out (by simp [rivuletlaw03_TopicRest.l0])
                    | succ k2 =>
                      have H := HA.out
                      clear HA
                      simp only [rivuletlaw03_TopicRest.l0] at H
                      by_cases c26 : x9_2 < (t297.length : Int)
                      · rw [if_pos c26] at H
                        have c26b0 : decide (x9_2 < (t297.length : Int)) = true := decide_eq_true c26
                        clear c26
                        by_cases c27 : x9_2 > 0
                        · rw [if_pos c27] at H
                          have c27b0 : decide (0 < x9_2) = true := decide_eq_true c27
                          clear c27
                          by_cases c28 : x8_2.size + 1 ≤ 9223372036854775807
                          · rw [if_pos c28] at H
                            have c28b0 := eq_true c28
                            have c28b1 : decide (x8_2.size + 1 ≤ 9223372036854775807) = true := decide_eq_true c28
                            try have c28b2 : (9223372036854775807 < x8_2.size + 1) = False := eq_false (Nat.not_lt.2 c28)
                            by_cases c29 : 0 ≤ x9_2
                            · rw [if_pos c29] at H
                              have c29b0 : decide (0 ≤ x9_2) = true := decide_eq_true c29
                              clear c29
                              by_cases c30 : (x8_2 ++ (⟨#[47]⟩ : ByteArray)).size + (rdOf ByteArray.empty t297 x9_2).size ≤ 9223372036854775807
                              · rw [if_pos c30] at H
                                have c30b0 := eq_true c30
                                have c30b1 : decide ((x8_2 ++ (⟨#[47]⟩ : ByteArray)).size + (rdOf ByteArray.empty t297 x9_2).size ≤ 9223372036854775807) = true := decide_eq_true c30
                                try have c30b2 : (9223372036854775807 < (x8_2 ++ (⟨#[47]⟩ : ByteArray)).size + (rdOf ByteArray.empty t297 x9_2).size) = False := eq_false (Nat.not_lt.2 c30)
                                by_cases c31 : x7_2 = true
                                · subst c31
                                  have H1 : (rivuletlaw03_TopicRest.l0 k2 Sji3 Sji6 (Sji3 ++ (⟨#[47, 35]⟩ : ByteArray)) t297 true ((x8_2 ++ (⟨#[47]⟩ : ByteArray)) ++ (rdOf ByteArray.empty t297 x9_2)) (wrap64 (x9_2 + 1))) = some r := by rw [if_pos rfl] at H; exact H
                                  clear H
                                  have H := H1
                                  clear H1
                                  have H' := Aside0.mk H
                                  clear H
                                  obtain ⟨Ao32, co32, eo32⟩ := Kd.R_slice HO_6.out
                                  subst eo32
                                  have p300 : 0 ≤ (x9_2 : Int) := of_decide_eq_true (by first | (with_reducible assumption) | assumption)
                                  have q300 : x9_2 < (t297.length : Int) := of_decide_eq_true (by first | (with_reducible assumption) | assumption)
                                  obtain ⟨ad300, e300, hx300_0⟩ := Kd.at_string (Kd.R_reads' HO_6.out).2.2 x9_2 p300 q300
                                  cases e300
                                  replace p300 := eq_true p300
                                  replace q300 := eq_true q300
                                  go_wp2
                                  go_roundg k2
                                  case measure => have := HJ9.out; have := HK2.out; omega
                                  case rel => exact ⟨(true), ((x8_2 ++ (⟨#[47]⟩ : ByteArray)) ++ (rdOf ByteArray.empty t297 x9_2)), (wrap64 (x9_2 + 1)), (by first | rfl | (simp; done) | (simp [*]; done)), (by first | rfl | (simp; done) | (simp [*]; done)), (by first | rfl | (simp; done) | (simp [*]; done)), H', ⟨by have := HJ9.out; have := HK2.out; omega⟩, ⟨by (with_reducible repeat (first | apply Kd.R_alloc | apply Kd.R_drewN | apply Kd.R_drew)); exact HO_6.out⟩, ⟨by repeat (first | (with_reducible first | exact HB.out | apply below_alloc | apply pw_below_drewN | apply below_drew1) | exact HB.out)⟩⟩
                                · replace c31 := Bool.eq_false_iff.mpr c31
                                  subst c31
                                  have H1 : ((topic_Match.f Sji3 ((x8_2 ++ (⟨#[47]⟩ : ByteArray)) ++ (rdOf ByteArray.empty t297 x9_2))).bind fun t301 => (rivuletlaw03_TopicRest.l0 k2 Sji3 Sji6 (Sji3 ++ (⟨#[47, 35]⟩ : ByteArray)) t297 t301 ((x8_2 ++ (⟨#[47]⟩ : ByteArray)) ++ (rdOf ByteArray.empty t297 x9_2)) (wrap64 (x9_2 + 1)))) = some r := by rw [if_neg (show ¬ (false = true) by decide)] at H; exact H
                                  clear H
                                  have H := H1
                                  clear H1
                                  replace H := Option.bind_eq_some_iff.mp H
                                  obtain ⟨t301, A330, H⟩ := H
                                  replace H : (rivuletlaw03_TopicRest.l0 k2 Sji3 Sji6 (Sji3 ++ (⟨#[47, 35]⟩ : ByteArray)) t297 t301 ((x8_2 ++ (⟨#[47]⟩ : ByteArray)) ++ (rdOf ByteArray.empty t297 x9_2)) (wrap64 (x9_2 + 1))) = some r := H
                                  have A33 := Aside0.mk A330
                                  clear A330
                                  have H' := Aside0.mk H
                                  clear H
                                  obtain ⟨Ao34, co34, eo34⟩ := Kd.R_slice HO_6.out
                                  subst eo34
                                  have p300 : 0 ≤ (x9_2 : Int) := of_decide_eq_true (by first | (with_reducible assumption) | assumption)
                                  have q300 : x9_2 < (t297.length : Int) := of_decide_eq_true (by first | (with_reducible assumption) | assumption)
                                  obtain ⟨ad300, e300, hx300_0⟩ := Kd.at_string (Kd.R_reads' HO_6.out).2.2 x9_2 p300 q300
                                  cases e300
                                  replace p300 := eq_true p300
                                  replace q300 := eq_true q300
                                  go_wp2_with (first | (go_at_call 21; (with_reducible refine (topic_Match.calls Sji3 ((x8_2 ++ (⟨#[47]⟩ : ByteArray)) ++ (rdOf ByteArray.empty t297 x9_2)) t301 _ A33.out).mono ?_); rintro e w35 ⟨rfl, hb⟩; have n0_ := Aside0.mk (Kd.R_below (by (with_reducible repeat (first | apply Kd.R_alloc | apply Kd.R_drewN | apply Kd.R_drew)); exact HO_6.out) hb); have n1_ := Aside0.mk (below_step (by repeat (first | (with_reducible first | exact HB.out | apply below_alloc | apply pw_below_drewN | apply below_drew1) | exact HB.out)) hb); clear HO_6; clear HB; have HO_6 := n0_; have HB := n1_; clear n0_ n1_; (try clear hb); (try clear hb2); (try clear hk); (try clear hi)))
                                  go_roundg k2
                                  case measure => have := HJ9.out; have := HK2.out; omega
                                  case rel => exact ⟨(t301), ((x8_2 ++ (⟨#[47]⟩ : ByteArray)) ++ (rdOf ByteArray.empty t297 x9_2)), (wrap64 (x9_2 + 1)), (by first | rfl | (simp; done) | (simp [*]; done)), (by first | rfl | (simp; done) | (simp [*]; done)), (by first | rfl | (simp; done) | (simp [*]; done)), H', ⟨by have := HJ9.out; have := HK2.out; omega⟩, ⟨by (with_reducible repeat (first | apply Kd.R_alloc | apply Kd.R_drewN | apply Kd.R_drew)); exact HO_6.out⟩, ⟨by repeat (first | (with_reducible first | exact HB.out | apply below_alloc | apply pw_below_drewN | apply below_drew1) | exact HB.out)⟩⟩
                              · rw [if_neg c30] at H
                                exact absurd H (by simp)
                            · rw [if_neg c29] at H
                              exact absurd H (by simp)
                          · rw [if_neg c28] at H
                            exact absurd H (by simp)
                        · rw [if_neg c27] at H
                          have c27b0 : decide (0 < x9_2) = false := decide_eq_false c27
                          clear c27
                          by_cases c36 : 0 ≤ x9_2
                          · rw [if_pos c36] at H
                            have c36b0 : decide (0 ≤ x9_2) = true := decide_eq_true c36
                            clear c36
                            by_cases c37 : x8_2.size + (rdOf ByteArray.empty t297 x9_2).size ≤ 9223372036854775807
                            · rw [if_pos c37] at H
                              have c37b0 := eq_true c37
                              have c37b1 : decide (x8_2.size + (rdOf ByteArray.empty t297 x9_2).size ≤ 9223372036854775807) = true := decide_eq_true c37
                              try have c37b2 : (9223372036854775807 < x8_2.size + (rdOf ByteArray.empty t297 x9_2).size) = False := eq_false (Nat.not_lt.2 c37)
                              by_cases c38 : x7_2 = true
                              · subst c38
                                have H1 : (rivuletlaw03_TopicRest.l0 k2 Sji3 Sji6 (Sji3 ++ (⟨#[47, 35]⟩ : ByteArray)) t297 true (x8_2 ++ (rdOf ByteArray.empty t297 x9_2)) (wrap64 (x9_2 + 1))) = some r := by rw [if_pos rfl] at H; exact H
                                clear H
                                have H := H1
                                clear H1
                                have H' := Aside0.mk H
                                clear H
                                obtain ⟨Ao39, co39, eo39⟩ := Kd.R_slice HO_6.out
                                subst eo39
                                have p302 : 0 ≤ (x9_2 : Int) := of_decide_eq_true (by first | (with_reducible assumption) | assumption)
                                have q302 : x9_2 < (t297.length : Int) := of_decide_eq_true (by first | (with_reducible assumption) | assumption)
                                obtain ⟨ad302, e302, hx302_0⟩ := Kd.at_string (Kd.R_reads' HO_6.out).2.2 x9_2 p302 q302
                                cases e302
                                replace p302 := eq_true p302
                                replace q302 := eq_true q302
                                go_wp2
                                go_roundg k2
                                case measure => have := HJ9.out; have := HK2.out; omega
                                case rel => exact ⟨(true), (x8_2 ++ (rdOf ByteArray.empty t297 x9_2)), (wrap64 (x9_2 + 1)), (by first | rfl | (simp; done) | (simp [*]; done)), (by first | rfl | (simp; done) | (simp [*]; done)), (by first | rfl | (simp; done) | (simp [*]; done)), H', ⟨by have := HJ9.out; have := HK2.out; omega⟩, ⟨by (with_reducible repeat (first | apply Kd.R_alloc | apply Kd.R_drewN | apply Kd.R_drew)); exact HO_6.out⟩, ⟨by repeat (first | (with_reducible first | exact HB.out | apply below_alloc | apply pw_below_drewN | apply below_drew1) | exact HB.out)⟩⟩
                              · replace c38 := Bool.eq_false_iff.mpr c38
                                subst c38
                                have H1 : ((topic_Match.f Sji3 (x8_2 ++ (rdOf ByteArray.empty t297 x9_2))).bind fun t303 => (rivuletlaw03_TopicRest.l0 k2 Sji3 Sji6 (Sji3 ++ (⟨#[47, 35]⟩ : ByteArray)) t297 t303 (x8_2 ++ (rdOf ByteArray.empty t297 x9_2)) (wrap64 (x9_2 + 1)))) = some r := by rw [if_neg (show ¬ (false = true) by decide)] at H; exact H
                                clear H
                                have H := H1
                                clear H1
                                replace H := Option.bind_eq_some_iff.mp H
                                obtain ⟨t303, A400, H⟩ := H
                                replace H : (rivuletlaw03_TopicRest.l0 k2 Sji3 Sji6 (Sji3 ++ (⟨#[47, 35]⟩ : ByteArray)) t297 t303 (x8_2 ++ (rdOf ByteArray.empty t297 x9_2)) (wrap64 (x9_2 + 1))) = some r := H
                                have A40 := Aside0.mk A400
                                clear A400
                                have H' := Aside0.mk H
                                clear H
                                obtain ⟨Ao41, co41, eo41⟩ := Kd.R_slice HO_6.out
                                subst eo41
                                have p302 : 0 ≤ (x9_2 : Int) := of_decide_eq_true (by first | (with_reducible assumption) | assumption)
                                have q302 : x9_2 < (t297.length : Int) := of_decide_eq_true (by first | (with_reducible assumption) | assumption)
                                obtain ⟨ad302, e302, hx302_0⟩ := Kd.at_string (Kd.R_reads' HO_6.out).2.2 x9_2 p302 q302
                                cases e302
                                replace p302 := eq_true p302
                                replace q302 := eq_true q302
                                go_wp2_with (first | (go_at_call 21; (with_reducible refine (topic_Match.calls Sji3 (x8_2 ++ (rdOf ByteArray.empty t297 x9_2)) t303 _ A40.out).mono ?_); rintro e w42 ⟨rfl, hb⟩; have n0_ := Aside0.mk (Kd.R_below (by (with_reducible repeat (first | apply Kd.R_alloc | apply Kd.R_drewN | apply Kd.R_drew)); exact HO_6.out) hb); have n1_ := Aside0.mk (below_step (by repeat (first | (with_reducible first | exact HB.out | apply below_alloc | apply pw_below_drewN | apply below_drew1) | exact HB.out)) hb); clear HO_6; clear HB; have HO_6 := n0_; have HB := n1_; clear n0_ n1_; (try clear hb); (try clear hb2); (try clear hk); (try clear hi)))
                                go_roundg k2
                                case measure => have := HJ9.out; have := HK2.out; omega
                                case rel => exact ⟨(t303), (x8_2 ++ (rdOf ByteArray.empty t297 x9_2)), (wrap64 (x9_2 + 1)), (by first | rfl | (simp; done) | (simp [*]; done)), (by first | rfl | (simp; done) | (simp [*]; done)), (by first | rfl | (simp; done) | (simp [*]; done)), H', ⟨by have := HJ9.out; have := HK2.out; omega⟩, ⟨by (with_reducible repeat (first | apply Kd.R_alloc | apply Kd.R_drewN | apply Kd.R_drew)); exact HO_6.out⟩, ⟨by repeat (first | (with_reducible first | exact HB.out | apply below_alloc | apply pw_below_drewN | apply below_drew1) | exact HB.out)⟩⟩
                            · rw [if_neg c37] at H
                              exact absurd H (by simp)
                          · rw [if_neg c36] at H
                            exact absurd H (by simp)
                      · rw [if_neg c26] at H
                        have c26b0 : decide (x9_2 < (t297.length : Int)) = false := decide_eq_false c26
                        clear c26
                        replace H := Option.bind_eq_some_iff.mp H
                        obtain ⟨t304, A430, H⟩ := H
                        replace H : (if x7_2 = true then ((topic_Right.f Sji6).bind fun t305 => (if (t304 == t305) = true then ((topic_Covers.f (Sji3 ++ (⟨#[47, 35]⟩ : ByteArray)) Sji3).bind fun t306 => (if t306 = true then ((topic_Covers.f (Sji3 ++ (⟨#[47, 35]⟩ : ByteArray)) (Sji3 ++ (⟨#[47, 35]⟩ : ByteArray))).bind fun t307 => (if t307 = true then ((rivuletlaw03_fixed.f).bind fun t308 => (some t308)) else (some false))) else (some false))) else (some false))) else (if (t304 == false) = true then ((topic_Covers.f (Sji3 ++ (⟨#[47, 35]⟩ : ByteArray)) Sji3).bind fun t309 => (if t309 = true then ((topic_Covers.f (Sji3 ++ (⟨#[47, 35]⟩ : ByteArray)) (Sji3 ++ (⟨#[47, 35]⟩ : ByteArray))).bind fun t310 => (if t310 = true then ((rivuletlaw03_fixed.f).bind fun t311 => (some t311)) else (some false))) else (some false))) else (some false))) = some r := H
                        have A43 := Aside0.mk A430
                        clear A430
                        by_cases c44 : x7_2 = true
                        · subst c44
                          have H1 : ((topic_Right.f Sji6).bind fun t305 => (if (t304 == t305) = true then ((topic_Covers.f (Sji3 ++ (⟨#[47, 35]⟩ : ByteArray)) Sji3).bind fun t306 => (if t306 = true then ((topic_Covers.f (Sji3 ++ (⟨#[47, 35]⟩ : ByteArray)) (Sji3 ++ (⟨#[47, 35]⟩ : ByteArray))).bind fun t307 => (if t307 = true then ((rivuletlaw03_fixed.f).bind fun t308 => (some t308)) else (some false))) else (some false))) else (some false))) = some r := by rw [if_pos rfl] at H; exact H
                          clear H
                          have H := H1
                          clear H1
                          replace H := Option.bind_eq_some_iff.mp H
                          obtain ⟨t305, A450, H⟩ := H
                          replace H : (if (t304 == t305) = true then ((topic_Covers.f (Sji3 ++ (⟨#[47, 35]⟩ : ByteArray)) Sji3).bind fun t306 => (if t306 = true then ((topic_Covers.f (Sji3 ++ (⟨#[47, 35]⟩ : ByteArray)) (Sji3 ++ (⟨#[47, 35]⟩ : ByteArray))).bind fun t307 => (if t307 = true then ((rivuletlaw03_fixed.f).bind fun t308 => (some t308)) else (some false))) else (some false))) else (some false)) = some r := H
                          have A45 := Aside0.mk A450
                          clear A450
                          by_cases c46 : (t304 == t305) = true
                          · rw [if_pos c46] at H
                            have c46b0 : (t304 == t305) = true := c46
                            (try (have c46b1 : decide (t304 = t305) = true := by simpa using c46))
                            (try (have c46b2 : (t304 == t305) = true := by simpa using c46))
                            clear c46
                            replace H := Option.bind_eq_some_iff.mp H
                            obtain ⟨t306, A470, H⟩ := H
                            replace H : (if t306 = true then ((topic_Covers.f (Sji3 ++ (⟨#[47, 35]⟩ : ByteArray)) (Sji3 ++ (⟨#[47, 35]⟩ : ByteArray))).bind fun t307 => (if t307 = true then ((rivuletlaw03_fixed.f).bind fun t308 => (some t308)) else (some false))) else (some false)) = some r := H
                            have A47 := Aside0.mk A470
                            clear A470
                            by_cases c48 : t306 = true
                            · subst c48
                              have H1 : ((topic_Covers.f (Sji3 ++ (⟨#[47, 35]⟩ : ByteArray)) (Sji3 ++ (⟨#[47, 35]⟩ : ByteArray))).bind fun t307 => (if t307 = true then ((rivuletlaw03_fixed.f).bind fun t308 => (some t308)) else (some false))) = some r := by rw [if_pos rfl] at H; exact H
                              clear H
                              have H := H1
                              clear H1
                              replace H := Option.bind_eq_some_iff.mp H
                              obtain ⟨t307, A490, H⟩ := H
                              replace H : (if t307 = true then ((rivuletlaw03_fixed.f).bind fun t308 => (some t308)) else (some false)) = some r := H
                              have A49 := Aside0.mk A490
                              clear A490
                              by_cases c50 : t307 = true
                              · subst c50
                                have H1 : ((rivuletlaw03_fixed.f).bind fun t308 => (some t308)) = some r := by rw [if_pos rfl] at H; exact H
                                clear H
                                have H := H1
                                clear H1
                                replace H := Option.bind_eq_some_iff.mp H
                                obtain ⟨t308, A510, H⟩ := H
                                replace H : (some t308) = some r := H
                                have A51 := Aside0.mk A510
                                clear A510
                                obtain rfl := Option.some.inj H
                                obtain ⟨Ao52, co52, eo52⟩ := Kd.R_slice HO_6.out
                                subst eo52
                                go_wp2_with (first | ((with_reducible refine gate_callee (f := 21) rfl ?_); refine goesL_ (some 63) rfl rfl Tryd.func21 (by kernel_rfl) rfl #[.string (Sji3 ++ (⟨#[47, 35]⟩ : ByteArray)), .string Sji6] rfl (by (try simp only [List.map_toArray, List.map_cons, List.map_nil]); first | done | (simp only [hji3, hji6]; rfl) | rfl | (simp only [List.length_drop, List.length_take]; rfl)) ?_; (with_reducible refine (topic_Match.calls (Sji3 ++ (⟨#[47, 35]⟩ : ByteArray)) Sji6 t304 _ A43.out).mono ?_); rintro e w53 ⟨rfl, hb⟩; refine ⟨_, rfl, ?_⟩; have n0_ := Aside0.mk (Kd.R_below (by (with_reducible repeat (first | apply Kd.R_alloc | apply Kd.R_drewN | apply Kd.R_drew)); exact HO_6.out) hb); have n1_ := Aside0.mk (below_step (by repeat (first | (with_reducible first | exact HB.out | apply below_alloc | apply pw_below_drewN | apply below_drew1) | exact HB.out)) hb); clear HO_6; clear HB; have HO_6 := n0_; have HB := n1_; clear n0_ n1_; (try clear hb); (try clear hb2); (try clear hk); (try clear hi)) | (go_at_call 11; (with_reducible refine (topic_Right.calls Sji6 t305 _ A45.out).mono ?_); rintro e w54 ⟨rfl, hb⟩; have n0_ := Aside0.mk (Kd.R_below (by (with_reducible repeat (first | apply Kd.R_alloc | apply Kd.R_drewN | apply Kd.R_drew)); exact HO_6.out) hb); have n1_ := Aside0.mk (below_step (by repeat (first | (with_reducible first | exact HB.out | apply below_alloc | apply pw_below_drewN | apply below_drew1) | exact HB.out)) hb); clear HO_6; clear HB; have HO_6 := n0_; have HB := n1_; clear n0_ n1_; (try clear hb); (try clear hb2); (try clear hk); (try clear hi)) | (go_at_call 23; (with_reducible refine (topic_Covers.calls (Sji3 ++ (⟨#[47, 35]⟩ : ByteArray)) Sji3 true _ A47.out).mono ?_); rintro e w55 ⟨rfl, hb⟩; have n0_ := Aside0.mk (Kd.R_below (by (with_reducible repeat (first | apply Kd.R_alloc | apply Kd.R_drewN | apply Kd.R_drew)); exact HO_6.out) hb); have n1_ := Aside0.mk (below_step (by repeat (first | (with_reducible first | exact HB.out | apply below_alloc | apply pw_below_drewN | apply below_drew1) | exact HB.out)) hb); clear HO_6; clear HB; have HO_6 := n0_; have HB := n1_; clear n0_ n1_; (try clear hb); (try clear hb2); (try clear hk); (try clear hi)) | (go_at_call 23; (with_reducible refine (topic_Covers.calls (Sji3 ++ (⟨#[47, 35]⟩ : ByteArray)) (Sji3 ++ (⟨#[47, 35]⟩ : ByteArray)) true _ A49.out).mono ?_); rintro e w56 ⟨rfl, hb⟩; have n0_ := Aside0.mk (Kd.R_below (by (with_reducible repeat (first | apply Kd.R_alloc | apply Kd.R_drewN | apply Kd.R_drew)); exact HO_6.out) hb); have n1_ := Aside0.mk (below_step (by repeat (first | (with_reducible first | exact HB.out | apply below_alloc | apply pw_below_drewN | apply below_drew1) | exact HB.out)) hb); clear HO_6; clear HB; have HO_6 := n0_; have HB := n1_; clear n0_ n1_; (try clear hb); (try clear hb2); (try clear hk); (try clear hi)) | (go_at_call 20; (with_reducible refine (rivuletlaw03_fixed.calls  t308 _ A51.out).mono ?_); rintro e w57 ⟨rfl, hb⟩; have n0_ := Aside0.mk (Kd.R_below (by (with_reducible repeat (first | apply Kd.R_alloc | apply Kd.R_drewN | apply Kd.R_drew)); exact HO_6.out) hb); have n1_ := Aside0.mk (below_step (by repeat (first | (with_reducible first | exact HB.out | apply below_alloc | apply pw_below_drewN | apply below_drew1) | exact HB.out)) hb); clear HO_6; clear HB; have HO_6 := n0_; have HB := n1_; clear n0_ n1_; (try clear hb); (try clear hb2); (try clear hk); (try clear hi)))
                                go_ret
                                exact ⟨by first | rfl | (simp [errW_none, errW_some] <;> rfl) | (simp only [← hji3, ← hji6]; first | rfl | (simp [errW_none, errW_some] <;> rfl)) | (simp [*, errW_none, errW_some] <;> rfl), by repeat (first | (with_reducible first | exact HB.out | apply below_alloc | apply pw_below_drewN | apply below_drew1) | exact HB.out)⟩
                              · replace c50 := Bool.eq_false_iff.mpr c50
                                subst c50
                                have H1 : (some false) = some r := by rw [if_neg (show ¬ (false = true) by decide)] at H; exact H
                                clear H
                                have H := H1
                                clear H1
                                obtain rfl := Option.some.inj H
                                obtain ⟨Ao58, co58, eo58⟩ := Kd.R_slice HO_6.out
                                subst eo58
                                go_wp2_with (first | ((with_reducible refine gate_callee (f := 21) rfl ?_); refine goesL_ (some 63) rfl rfl Tryd.func21 (by kernel_rfl) rfl #[.string (Sji3 ++ (⟨#[47, 35]⟩ : ByteArray)), .string Sji6] rfl (by (try simp only [List.map_toArray, List.map_cons, List.map_nil]); first | done | (simp only [hji3, hji6]; rfl) | rfl | (simp only [List.length_drop, List.length_take]; rfl)) ?_; (with_reducible refine (topic_Match.calls (Sji3 ++ (⟨#[47, 35]⟩ : ByteArray)) Sji6 t304 _ A43.out).mono ?_); rintro e w59 ⟨rfl, hb⟩; refine ⟨_, rfl, ?_⟩; have n0_ := Aside0.mk (Kd.R_below (by (with_reducible repeat (first | apply Kd.R_alloc | apply Kd.R_drewN | apply Kd.R_drew)); exact HO_6.out) hb); have n1_ := Aside0.mk (below_step (by repeat (first | (with_reducible first | exact HB.out | apply below_alloc | apply pw_below_drewN | apply below_drew1) | exact HB.out)) hb); clear HO_6; clear HB; have HO_6 := n0_; have HB := n1_; clear n0_ n1_; (try clear hb); (try clear hb2); (try clear hk); (try clear hi)) | (go_at_call 11; (with_reducible refine (topic_Right.calls Sji6 t305 _ A45.out).mono ?_); rintro e w60 ⟨rfl, hb⟩; have n0_ := Aside0.mk (Kd.R_below (by (with_reducible repeat (first | apply Kd.R_alloc | apply Kd.R_drewN | apply Kd.R_drew)); exact HO_6.out) hb); have n1_ := Aside0.mk (below_step (by repeat (first | (with_reducible first | exact HB.out | apply below_alloc | apply pw_below_drewN | apply below_drew1) | exact HB.out)) hb); clear HO_6; clear HB; have HO_6 := n0_; have HB := n1_; clear n0_ n1_; (try clear hb); (try clear hb2); (try clear hk); (try clear hi)) | (go_at_call 23; (with_reducible refine (topic_Covers.calls (Sji3 ++ (⟨#[47, 35]⟩ : ByteArray)) Sji3 true _ A47.out).mono ?_); rintro e w61 ⟨rfl, hb⟩; have n0_ := Aside0.mk (Kd.R_below (by (with_reducible repeat (first | apply Kd.R_alloc | apply Kd.R_drewN | apply Kd.R_drew)); exact HO_6.out) hb); have n1_ := Aside0.mk (below_step (by repeat (first | (with_reducible first | exact HB.out | apply below_alloc | apply pw_below_drewN | apply below_drew1) | exact HB.out)) hb); clear HO_6; clear HB; have HO_6 := n0_; have HB := n1_; clear n0_ n1_; (try clear hb); (try clear hb2); (try clear hk); (try clear hi)) | (go_at_call 23; (with_reducible refine (topic_Covers.calls (Sji3 ++ (⟨#[47, 35]⟩ : ByteArray)) (Sji3 ++ (⟨#[47, 35]⟩ : ByteArray)) false _ A49.out).mono ?_); rintro e w62 ⟨rfl, hb⟩; have n0_ := Aside0.mk (Kd.R_below (by (with_reducible repeat (first | apply Kd.R_alloc | apply Kd.R_drewN | apply Kd.R_drew)); exact HO_6.out) hb); have n1_ := Aside0.mk (below_step (by repeat (first | (with_reducible first | exact HB.out | apply below_alloc | apply pw_below_drewN | apply below_drew1) | exact HB.out)) hb); clear HO_6; clear HB; have HO_6 := n0_; have HB := n1_; clear n0_ n1_; (try clear hb); (try clear hb2); (try clear hk); (try clear hi)))
                                go_ret
                                exact ⟨by first | rfl | (simp [errW_none, errW_some] <;> rfl) | (simp only [← hji3, ← hji6]; first | rfl | (simp [errW_none, errW_some] <;> rfl)) | (simp [*, errW_none, errW_some] <;> rfl), by repeat (first | (with_reducible first | exact HB.out | apply below_alloc | apply pw_below_drewN | apply below_drew1) | exact HB.out)⟩
                            · replace c48 := Bool.eq_false_iff.mpr c48
                              subst c48
                              have H1 : (some false) = some r := by rw [if_neg (show ¬ (false = true) by decide)] at H; exact H
                              clear H
                              have H := H1
                              clear H1
                              obtain rfl := Option.some.inj H
                              obtain ⟨Ao63, co63, eo63⟩ := Kd.R_slice HO_6.out
                              subst eo63
                              go_wp2_with (first | ((with_reducible refine gate_callee (f := 21) rfl ?_); refine goesL_ (some 63) rfl rfl Tryd.func21 (by kernel_rfl) rfl #[.string (Sji3 ++ (⟨#[47, 35]⟩ : ByteArray)), .string Sji6] rfl (by (try simp only [List.map_toArray, List.map_cons, List.map_nil]); first | done | (simp only [hji3, hji6]; rfl) | rfl | (simp only [List.length_drop, List.length_take]; rfl)) ?_; (with_reducible refine (topic_Match.calls (Sji3 ++ (⟨#[47, 35]⟩ : ByteArray)) Sji6 t304 _ A43.out).mono ?_); rintro e w64 ⟨rfl, hb⟩; refine ⟨_, rfl, ?_⟩; have n0_ := Aside0.mk (Kd.R_below (by (with_reducible repeat (first | apply Kd.R_alloc | apply Kd.R_drewN | apply Kd.R_drew)); exact HO_6.out) hb); have n1_ := Aside0.mk (below_step (by repeat (first | (with_reducible first | exact HB.out | apply below_alloc | apply pw_below_drewN | apply below_drew1) | exact HB.out)) hb); clear HO_6; clear HB; have HO_6 := n0_; have HB := n1_; clear n0_ n1_; (try clear hb); (try clear hb2); (try clear hk); (try clear hi)) | (go_at_call 11; (with_reducible refine (topic_Right.calls Sji6 t305 _ A45.out).mono ?_); rintro e w65 ⟨rfl, hb⟩; have n0_ := Aside0.mk (Kd.R_below (by (with_reducible repeat (first | apply Kd.R_alloc | apply Kd.R_drewN | apply Kd.R_drew)); exact HO_6.out) hb); have n1_ := Aside0.mk (below_step (by repeat (first | (with_reducible first | exact HB.out | apply below_alloc | apply pw_below_drewN | apply below_drew1) | exact HB.out)) hb); clear HO_6; clear HB; have HO_6 := n0_; have HB := n1_; clear n0_ n1_; (try clear hb); (try clear hb2); (try clear hk); (try clear hi)) | (go_at_call 23; (with_reducible refine (topic_Covers.calls (Sji3 ++ (⟨#[47, 35]⟩ : ByteArray)) Sji3 false _ A47.out).mono ?_); rintro e w66 ⟨rfl, hb⟩; have n0_ := Aside0.mk (Kd.R_below (by (with_reducible repeat (first | apply Kd.R_alloc | apply Kd.R_drewN | apply Kd.R_drew)); exact HO_6.out) hb); have n1_ := Aside0.mk (below_step (by repeat (first | (with_reducible first | exact HB.out | apply below_alloc | apply pw_below_drewN | apply below_drew1) | exact HB.out)) hb); clear HO_6; clear HB; have HO_6 := n0_; have HB := n1_; clear n0_ n1_; (try clear hb); (try clear hb2); (try clear hk); (try clear hi)))
                              go_ret
                              exact ⟨by first | rfl | (simp [errW_none, errW_some] <;> rfl) | (simp only [← hji3, ← hji6]; first | rfl | (simp [errW_none, errW_some] <;> rfl)) | (simp [*, errW_none, errW_some] <;> rfl), by repeat (first | (with_reducible first | exact HB.out | apply below_alloc | apply pw_below_drewN | apply below_drew1) | exact HB.out)⟩
                          · rw [if_neg c46] at H
                            have c46b0 : (t304 == t305) = false := by simpa using c46
                            (try (have c46b1 : decide (t304 = t305) = false := by simpa using c46))
                            (try (have c46b2 : (t304 == t305) = false := by simpa using c46))
                            (try (have c46b3 : ¬ (t304 = t305) := by simpa using c46))
                            clear c46
                            obtain rfl := Option.some.inj H
                            obtain ⟨Ao67, co67, eo67⟩ := Kd.R_slice HO_6.out
                            subst eo67
                            go_wp2_with (first | ((with_reducible refine gate_callee (f := 21) rfl ?_); refine goesL_ (some 63) rfl rfl Tryd.func21 (by kernel_rfl) rfl #[.string (Sji3 ++ (⟨#[47, 35]⟩ : ByteArray)), .string Sji6] rfl (by (try simp only [List.map_toArray, List.map_cons, List.map_nil]); first | done | (simp only [hji3, hji6]; rfl) | rfl | (simp only [List.length_drop, List.length_take]; rfl)) ?_; (with_reducible refine (topic_Match.calls (Sji3 ++ (⟨#[47, 35]⟩ : ByteArray)) Sji6 t304 _ A43.out).mono ?_); rintro e w68 ⟨rfl, hb⟩; refine ⟨_, rfl, ?_⟩; have n0_ := Aside0.mk (Kd.R_below (by (with_reducible repeat (first | apply Kd.R_alloc | apply Kd.R_drewN | apply Kd.R_drew)); exact HO_6.out) hb); have n1_ := Aside0.mk (below_step (by repeat (first | (with_reducible first | exact HB.out | apply below_alloc | apply pw_below_drewN | apply below_drew1) | exact HB.out)) hb); clear HO_6; clear HB; have HO_6 := n0_; have HB := n1_; clear n0_ n1_; (try clear hb); (try clear hb2); (try clear hk); (try clear hi)) | (go_at_call 11; (with_reducible refine (topic_Right.calls Sji6 t305 _ A45.out).mono ?_); rintro e w69 ⟨rfl, hb⟩; have n0_ := Aside0.mk (Kd.R_below (by (with_reducible repeat (first | apply Kd.R_alloc | apply Kd.R_drewN | apply Kd.R_drew)); exact HO_6.out) hb); have n1_ := Aside0.mk (below_step (by repeat (first | (with_reducible first | exact HB.out | apply below_alloc | apply pw_below_drewN | apply below_drew1) | exact HB.out)) hb); clear HO_6; clear HB; have HO_6 := n0_; have HB := n1_; clear n0_ n1_; (try clear hb); (try clear hb2); (try clear hk); (try clear hi)))
                            go_ret
                            exact ⟨by first | rfl | (simp [errW_none, errW_some] <;> rfl) | (simp only [← hji3, ← hji6]; first | rfl | (simp [errW_none, errW_some] <;> rfl)) | (simp [*, errW_none, errW_some] <;> rfl), by repeat (first | (with_reducible first | exact HB.out | apply below_alloc | apply pw_below_drewN | apply below_drew1) | exact HB.out)⟩
                        · replace c44 := Bool.eq_false_iff.mpr c44
                          subst c44
                          have H1 : (if (t304 == false) = true then ((topic_Covers.f (Sji3 ++ (⟨#[47, 35]⟩ : ByteArray)) Sji3).bind fun t309 => (if t309 = true then ((topic_Covers.f (Sji3 ++ (⟨#[47, 35]⟩ : ByteArray)) (Sji3 ++ (⟨#[47, 35]⟩ : ByteArray))).bind fun t310 => (if t310 = true then ((rivuletlaw03_fixed.f).bind fun t311 => (some t311)) else (some false))) else (some false))) else (some false)) = some r := by rw [if_neg (show ¬ (false = true) by decide)] at H; exact H
                          clear H
                          have H := H1
                          clear H1
                          by_cases c70 : (t304 == false) = true
                          · rw [if_pos c70] at H
                            have c70b0 : (t304 == false) = true := c70
                            (try (have c70b1 : decide (t304 = false) = true := by simpa using c70))
                            (try (have c70b2 : (t304 == false) = true := by simpa using c70))
                            clear c70
                            replace H := Option.bind_eq_some_iff.mp H
                            obtain ⟨t309, A710, H⟩ := H
                            replace H : (if t309 = true then ((topic_Covers.f (Sji3 ++ (⟨#[47, 35]⟩ : ByteArray)) (Sji3 ++ (⟨#[47, 35]⟩ : ByteArray))).bind fun t310 => (if t310 = true then ((rivuletlaw03_fixed.f).bind fun t311 => (some t311)) else (some false))) else (some false)) = some r := H
                            have A71 := Aside0.mk A710
                            clear A710
                            by_cases c72 : t309 = true
                            · subst c72
                              have H1 : ((topic_Covers.f (Sji3 ++ (⟨#[47, 35]⟩ : ByteArray)) (Sji3 ++ (⟨#[47, 35]⟩ : ByteArray))).bind fun t310 => (if t310 = true then ((rivuletlaw03_fixed.f).bind fun t311 => (some t311)) else (some false))) = some r := by rw [if_pos rfl] at H; exact H
                              clear H
                              have H := H1
                              clear H1
                              replace H := Option.bind_eq_some_iff.mp H
                              obtain ⟨t310, A730, H⟩ := H
                              replace H : (if t310 = true then ((rivuletlaw03_fixed.f).bind fun t311 => (some t311)) else (some false)) = some r := H
                              have A73 := Aside0.mk A730
                              clear A730
                              by_cases c74 : t310 = true
                              · subst c74
                                have H1 : ((rivuletlaw03_fixed.f).bind fun t311 => (some t311)) = some r := by rw [if_pos rfl] at H; exact H
                                clear H
                                have H := H1
                                clear H1
                                replace H := Option.bind_eq_some_iff.mp H
                                obtain ⟨t311, A750, H⟩ := H
                                replace H : (some t311) = some r := H
                                have A75 := Aside0.mk A750
                                clear A750
                                obtain rfl := Option.some.inj H
                                obtain ⟨Ao76, co76, eo76⟩ := Kd.R_slice HO_6.out
                                subst eo76
                                go_wp2_with (first | ((with_reducible refine gate_callee (f := 21) rfl ?_); refine goesL_ (some 63) rfl rfl Tryd.func21 (by kernel_rfl) rfl #[.string (Sji3 ++ (⟨#[47, 35]⟩ : ByteArray)), .string Sji6] rfl (by (try simp only [List.map_toArray, List.map_cons, List.map_nil]); first | done | (simp only [hji3, hji6]; rfl) | rfl | (simp only [List.length_drop, List.length_take]; rfl)) ?_; (with_reducible refine (topic_Match.calls (Sji3 ++ (⟨#[47, 35]⟩ : ByteArray)) Sji6 t304 _ A43.out).mono ?_); rintro e w77 ⟨rfl, hb⟩; refine ⟨_, rfl, ?_⟩; have n0_ := Aside0.mk (Kd.R_below (by (with_reducible repeat (first | apply Kd.R_alloc | apply Kd.R_drewN | apply Kd.R_drew)); exact HO_6.out) hb); have n1_ := Aside0.mk (below_step (by repeat (first | (with_reducible first | exact HB.out | apply below_alloc | apply pw_below_drewN | apply below_drew1) | exact HB.out)) hb); clear HO_6; clear HB; have HO_6 := n0_; have HB := n1_; clear n0_ n1_; (try clear hb); (try clear hb2); (try clear hk); (try clear hi)) | (go_at_call 23; (with_reducible refine (topic_Covers.calls (Sji3 ++ (⟨#[47, 35]⟩ : ByteArray)) Sji3 true _ A71.out).mono ?_); rintro e w78 ⟨rfl, hb⟩; have n0_ := Aside0.mk (Kd.R_below (by (with_reducible repeat (first | apply Kd.R_alloc | apply Kd.R_drewN | apply Kd.R_drew)); exact HO_6.out) hb); have n1_ := Aside0.mk (below_step (by repeat (first | (with_reducible first | exact HB.out | apply below_alloc | apply pw_below_drewN | apply below_drew1) | exact HB.out)) hb); clear HO_6; clear HB; have HO_6 := n0_; have HB := n1_; clear n0_ n1_; (try clear hb); (try clear hb2); (try clear hk); (try clear hi)) | (go_at_call 23; (with_reducible refine (topic_Covers.calls (Sji3 ++ (⟨#[47, 35]⟩ : ByteArray)) (Sji3 ++ (⟨#[47, 35]⟩ : ByteArray)) true _ A73.out).mono ?_); rintro e w79 ⟨rfl, hb⟩; have n0_ := Aside0.mk (Kd.R_below (by (with_reducible repeat (first | apply Kd.R_alloc | apply Kd.R_drewN | apply Kd.R_drew)); exact HO_6.out) hb); have n1_ := Aside0.mk (below_step (by repeat (first | (with_reducible first | exact HB.out | apply below_alloc | apply pw_below_drewN | apply below_drew1) | exact HB.out)) hb); clear HO_6; clear HB; have HO_6 := n0_; have HB := n1_; clear n0_ n1_; (try clear hb); (try clear hb2); (try clear hk); (try clear hi)) | (go_at_call 20; (with_reducible refine (rivuletlaw03_fixed.calls  t311 _ A75.out).mono ?_); rintro e w80 ⟨rfl, hb⟩; have n0_ := Aside0.mk (Kd.R_below (by (with_reducible repeat (first | apply Kd.R_alloc | apply Kd.R_drewN | apply Kd.R_drew)); exact HO_6.out) hb); have n1_ := Aside0.mk (below_step (by repeat (first | (with_reducible first | exact HB.out | apply below_alloc | apply pw_below_drewN | apply below_drew1) | exact HB.out)) hb); clear HO_6; clear HB; have HO_6 := n0_; have HB := n1_; clear n0_ n1_; (try clear hb); (try clear hb2); (try clear hk); (try clear hi)))
                                go_ret
                                exact ⟨by first | rfl | (simp [errW_none, errW_some] <;> rfl) | (simp only [← hji3, ← hji6]; first | rfl | (simp [errW_none, errW_some] <;> rfl)) | (simp [*, errW_none, errW_some] <;> rfl), by repeat (first | (with_reducible first | exact HB.out | apply below_alloc | apply pw_below_drewN | apply below_drew1) | exact HB.out)⟩
                              · replace c74 := Bool.eq_false_iff.mpr c74
                                subst c74
                                have H1 : (some false) = some r := by rw [if_neg (show ¬ (false = true) by decide)] at H; exact H
                                clear H
                                have H := H1
                                clear H1
                                obtain rfl := Option.some.inj H
                                obtain ⟨Ao81, co81, eo81⟩ := Kd.R_slice HO_6.out
                                subst eo81
                                go_wp2_with (first | ((with_reducible refine gate_callee (f := 21) rfl ?_); refine goesL_ (some 63) rfl rfl Tryd.func21 (by kernel_rfl) rfl #[.string (Sji3 ++ (⟨#[47, 35]⟩ : ByteArray)), .string Sji6] rfl (by (try simp only [List.map_toArray, List.map_cons, List.map_nil]); first | done | (simp only [hji3, hji6]; rfl) | rfl | (simp only [List.length_drop, List.length_take]; rfl)) ?_; (with_reducible refine (topic_Match.calls (Sji3 ++ (⟨#[47, 35]⟩ : ByteArray)) Sji6 t304 _ A43.out).mono ?_); rintro e w82 ⟨rfl, hb⟩; refine ⟨_, rfl, ?_⟩; have n0_ := Aside0.mk (Kd.R_below (by (with_reducible repeat (first | apply Kd.R_alloc | apply Kd.R_drewN | apply Kd.R_drew)); exact HO_6.out) hb); have n1_ := Aside0.mk (below_step (by repeat (first | (with_reducible first | exact HB.out | apply below_alloc | apply pw_below_drewN | apply below_drew1) | exact HB.out)) hb); clear HO_6; clear HB; have HO_6 := n0_; have HB := n1_; clear n0_ n1_; (try clear hb); (try clear hb2); (try clear hk); (try clear hi)) | (go_at_call 23; (with_reducible refine (topic_Covers.calls (Sji3 ++ (⟨#[47, 35]⟩ : ByteArray)) Sji3 true _ A71.out).mono ?_); rintro e w83 ⟨rfl, hb⟩; have n0_ := Aside0.mk (Kd.R_below (by (with_reducible repeat (first | apply Kd.R_alloc | apply Kd.R_drewN | apply Kd.R_drew)); exact HO_6.out) hb); have n1_ := Aside0.mk (below_step (by repeat (first | (with_reducible first | exact HB.out | apply below_alloc | apply pw_below_drewN | apply below_drew1) | exact HB.out)) hb); clear HO_6; clear HB; have HO_6 := n0_; have HB := n1_; clear n0_ n1_; (try clear hb); (try clear hb2); (try clear hk); (try clear hi)) | (go_at_call 23; (with_reducible refine (topic_Covers.calls (Sji3 ++ (⟨#[47, 35]⟩ : ByteArray)) (Sji3 ++ (⟨#[47, 35]⟩ : ByteArray)) false _ A73.out).mono ?_); rintro e w84 ⟨rfl, hb⟩; have n0_ := Aside0.mk (Kd.R_below (by (with_reducible repeat (first | apply Kd.R_alloc | apply Kd.R_drewN | apply Kd.R_drew)); exact HO_6.out) hb); have n1_ := Aside0.mk (below_step (by repeat (first | (with_reducible first | exact HB.out | apply below_alloc | apply pw_below_drewN | apply below_drew1) | exact HB.out)) hb); clear HO_6; clear HB; have HO_6 := n0_; have HB := n1_; clear n0_ n1_; (try clear hb); (try clear hb2); (try clear hk); (try clear hi)))
                                go_ret
                                exact ⟨by first | rfl | (simp [errW_none, errW_some] <;> rfl) | (simp only [← hji3, ← hji6]; first | rfl | (simp [errW_none, errW_some] <;> rfl)) | (simp [*, errW_none, errW_some] <;> rfl), by repeat (first | (with_reducible first | exact HB.out | apply below_alloc | apply pw_below_drewN | apply below_drew1) | exact HB.out)⟩
                            · replace c72 := Bool.eq_false_iff.mpr c72
                              subst c72
                              have H1 : (some false) = some r := by rw [if_neg (show ¬ (false = true) by decide)] at H; exact H
                              clear H
                              have H := H1
                              clear H1
                              obtain rfl := Option.some.inj H
                              obtain ⟨Ao85, co85, eo85⟩ := Kd.R_slice HO_6.out
                              subst eo85
                              go_wp2_with (first | ((with_reducible refine gate_callee (f := 21) rfl ?_); refine goesL_ (some 63) rfl rfl Tryd.func21 (by kernel_rfl) rfl #[.string (Sji3 ++ (⟨#[47, 35]⟩ : ByteArray)), .string Sji6] rfl (by (try simp only [List.map_toArray, List.map_cons, List.map_nil]); first | done | (simp only [hji3, hji6]; rfl) | rfl | (simp only [List.length_drop, List.length_take]; rfl)) ?_; (with_reducible refine (topic_Match.calls (Sji3 ++ (⟨#[47, 35]⟩ : ByteArray)) Sji6 t304 _ A43.out).mono ?_); rintro e w86 ⟨rfl, hb⟩; refine ⟨_, rfl, ?_⟩; have n0_ := Aside0.mk (Kd.R_below (by (with_reducible repeat (first | apply Kd.R_alloc | apply Kd.R_drewN | apply Kd.R_drew)); exact HO_6.out) hb); have n1_ := Aside0.mk (below_step (by repeat (first | (with_reducible first | exact HB.out | apply below_alloc | apply pw_below_drewN | apply below_drew1) | exact HB.out)) hb); clear HO_6; clear HB; have HO_6 := n0_; have HB := n1_; clear n0_ n1_; (try clear hb); (try clear hb2); (try clear hk); (try clear hi)) | (go_at_call 23; (with_reducible refine (topic_Covers.calls (Sji3 ++ (⟨#[47, 35]⟩ : ByteArray)) Sji3 false _ A71.out).mono ?_); rintro e w87 ⟨rfl, hb⟩; have n0_ := Aside0.mk (Kd.R_below (by (with_reducible repeat (first | apply Kd.R_alloc | apply Kd.R_drewN | apply Kd.R_drew)); exact HO_6.out) hb); have n1_ := Aside0.mk (below_step (by repeat (first | (with_reducible first | exact HB.out | apply below_alloc | apply pw_below_drewN | apply below_drew1) | exact HB.out)) hb); clear HO_6; clear HB; have HO_6 := n0_; have HB := n1_; clear n0_ n1_; (try clear hb); (try clear hb2); (try clear hk); (try clear hi)))
                              go_ret
                              exact ⟨by first | rfl | (simp [errW_none, errW_some] <;> rfl) | (simp only [← hji3, ← hji6]; first | rfl | (simp [errW_none, errW_some] <;> rfl)) | (simp [*, errW_none, errW_some] <;> rfl), by repeat (first | (with_reducible first | exact HB.out | apply below_alloc | apply pw_below_drewN | apply below_drew1) | exact HB.out)⟩
                          · rw [if_neg c70] at H
                            have c70b0 : (t304 == false) = false := by simpa using c70
                            (try (have c70b1 : decide (t304 = false) = false := by simpa using c70))
                            (try (have c70b2 : (t304 == false) = false := by simpa using c70))
                            (try (have c70b3 : ¬ (t304 = false) := by simpa using c70))
                            clear c70
                            obtain rfl := Option.some.inj H
                            obtain ⟨Ao88, co88, eo88⟩ := Kd.R_slice HO_6.out
                            subst eo88
                            go_wp2_with (first | ((with_reducible refine gate_callee (f := 21) rfl ?_); refine goesL_ (some 63) rfl rfl Tryd.func21 (by kernel_rfl) rfl #[.string (Sji3 ++ (⟨#[47, 35]⟩ : ByteArray)), .string Sji6] rfl (by (try simp only [List.map_toArray, List.map_cons, List.map_nil]); first | done | (simp only [hji3, hji6]; rfl) | rfl | (simp only [List.length_drop, List.length_take]; rfl)) ?_; (with_reducible refine (topic_Match.calls (Sji3 ++ (⟨#[47, 35]⟩ : ByteArray)) Sji6 t304 _ A43.out).mono ?_); rintro e w89 ⟨rfl, hb⟩; refine ⟨_, rfl, ?_⟩; have n0_ := Aside0.mk (Kd.R_below (by (with_reducible repeat (first | apply Kd.R_alloc | apply Kd.R_drewN | apply Kd.R_drew)); exact HO_6.out) hb); have n1_ := Aside0.mk (below_step (by repeat (first | (with_reducible first | exact HB.out | apply below_alloc | apply pw_below_drewN | apply below_drew1) | exact HB.out)) hb); clear HO_6; clear HB; have HO_6 := n0_; have HB := n1_; clear n0_ n1_; (try clear hb); (try clear hb2); (try clear hk); (try clear hi)))
                            go_ret
                            exact ⟨by first | rfl | (simp [errW_none, errW_some] <;> rfl) | (simp only [← hji3, ← hji6]; first | rfl | (simp [errW_none, errW_some] <;> rfl)) | (simp [*, errW_none, errW_some] <;> rfl), by repeat (first | (with_reducible first | exact HB.out | apply below_alloc | apply pw_below_drewN | apply below_drew1) | exact HB.out)⟩
          · rw [if_neg c9] at H
            exact absurd H (by simp)
        · rw [if_neg c8] at H
          exact absurd H (by simp)
      · rw [if_neg c7] at H
        exact absurd H (by simp)
    · rw [if_neg c5] at H
      exact absurd H (by simp)
  · rw [if_neg c4] at H
    exact absurd H (by simp)

/-- THE ONE PURE STATEMENT of rivuletlaw03_TopicRest: yours. -/
def rivuletlaw03_TopicRest.Pure : Prop := ∀ (a0 : ByteArray) (a1 : ByteArray), a0.size ≤ 140737488351232 → a1.size ≤ 140737488351232 → ∃ k, rivuletlaw03_TopicRest.f k a0 a1 = some true
theorem rivuletlaw03_TopicRest.walk (P : rivuletlaw03_TopicRest.Pure) (a0 : ByteArray) (a1 : ByteArray) (w : World) (w0 : a0.size ≤ 140737488351232) (w1 : a1.size ≤ 140737488351232) :
    Calls Tryd.prog 10 #[.string a0, .string a1] w fun e w' => e = .returned (.bool true) ∧ Below w.heap.size w w' := by
  obtain ⟨k, h⟩ := P a0 a1 w0 w1
  refine (rivuletlaw03_TopicRest.calls k a0 a1 true w h).mono ?_
  rintro e w' ⟨rfl, hd⟩
  exact ⟨rfl, hd⟩

end Go.Proofs.YtfakimleoihfgaaDoor.Pr
