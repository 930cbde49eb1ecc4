-- Printed by this session's changed copy of the kit's printer (wip/tools/mkprint.py; some functions are given by hand). Lean checks it.
import Derived.Test.YtfakimleoihfgaaDoorPr0
namespace Go.Proofs.YtfakimleoihfgaaDoor.Pr
open Go.RowKit Go.Proofs.YtfakimleoihfgaaDoorW.PrintWords Go.Proofs.YtfakimleoihfgaaDoorW.PrintLast Go.Proofs.YtfakimleoihfgaaDoorW.PrintMore
attribute [local go_sem] max2_int min2_int max_two min_two max_three min_three max_four min_four   -- for this text's walks alone
set_option linter.unusedVariables false
set_option linter.unusedSimpArgs false

/-! ### rivuletlaw03_TopicOrder: function 6 -/
mutual
def rivuletlaw03_TopicOrder.j0 : Nat → ByteArray → ByteArray → ByteArray → Bool → Option (Bool)
  | 0, _, _, _, _ => none
  | k + 1, x0, x1, x2, x35 => if x35 = true then (some false) else ((topic_Covers.f x0 x1).bind fun t240 => (if t240 = true then ((topic_Covers.f x1 x2).bind fun t241 => (if t241 = true then ((topic_Covers.f x0 x2).bind fun t242 => (rivuletlaw03_TopicOrder.j1 k x0 x1 x2 (!t242))) else (rivuletlaw03_TopicOrder.j1 k x0 x1 x2 false))) else (rivuletlaw03_TopicOrder.j1 k x0 x1 x2 false)))
def rivuletlaw03_TopicOrder.j1 : Nat → ByteArray → ByteArray → ByteArray → Bool → Option (Bool)
  | 0, _, _, _, _ => none
  | k + 1, x0, x1, x2, x49 => if x49 = true then (some false) else ((topic_Match.f x0 x2).bind fun t243 => (if t243 = true then ((topic_Match.f x1 x2).bind fun t244 => (if t244 = true then ((topic_Meet.f x0 x1).bind fun t245 => (rivuletlaw03_TopicOrder.j2 k x0 x1 x2 (!t245))) else (rivuletlaw03_TopicOrder.j2 k x0 x1 x2 false))) else (rivuletlaw03_TopicOrder.j2 k x0 x1 x2 false)))
def rivuletlaw03_TopicOrder.j2 : Nat → ByteArray → ByteArray → ByteArray → Bool → Option (Bool)
  | 0, _, _, _, _ => none
  | k + 1, x0, x1, x2, x63 => if x63 = true then (some false) else ((topic_Covers.f x0 x1).bind fun t246 => (if t246 = true then ((topic_Meet.f x0 x1).bind fun t247 => (if t247 = true then ((topic_Meet.f x1 x0).bind fun t248 => (if (t247 == t248) = true then ((topic_Covers.f x0 x1).bind fun t249 => (if t249 = true then ((topic_Match.f x1 x2).bind fun t250 => (if t250 = true then ((topic_Match.f x0 x2).bind fun t251 => (if t251 = true then ((rivuletlaw03_fixed.f).bind fun t252 => (some t252)) else (some false))) else ((rivuletlaw03_fixed.f).bind fun t253 => (some t253)))) else ((rivuletlaw03_fixed.f).bind fun t254 => (some t254)))) else (some false))) else (some false))) else ((topic_Meet.f x0 x1).bind fun t255 => ((topic_Meet.f x1 x0).bind fun t256 => (if (t255 == t256) = true then ((topic_Covers.f x0 x1).bind fun t257 => (if t257 = true then ((topic_Match.f x1 x2).bind fun t258 => (if t258 = true then ((topic_Match.f x0 x2).bind fun t259 => (if t259 = true then ((rivuletlaw03_fixed.f).bind fun t260 => (some t260)) else (some false))) else ((rivuletlaw03_fixed.f).bind fun t261 => (some t261)))) else ((rivuletlaw03_fixed.f).bind fun t262 => (some t262)))) else (some false))))))
end
def rivuletlaw03_TopicOrder.f (k : Nat) (a0 : ByteArray) (a1 : ByteArray) (a2 : ByteArray) : Option (Bool) := if 0 ≤ (mn (a0.size : Int) 200) then (if (mn (a0.size : Int) 200) ≤ (a0.size : Int) then (if 0 ≤ (mn (a1.size : Int) 200) then (if (mn (a1.size : Int) 200) ≤ (a1.size : Int) then (if 0 ≤ (mn (a2.size : Int) 200) then (if (mn (a2.size : Int) 200) ≤ (a2.size : Int) then ((topic_Filter.f (a0.extract 0 ((mn (a0.size : Int) 200) : Int).toNat)).bind fun t237 => (if t237 = true then ((topic_Covers.f (a0.extract 0 ((mn (a0.size : Int) 200) : Int).toNat) (a0.extract 0 ((mn (a0.size : Int) 200) : Int).toNat)).bind fun t238 => (if t238 = true then ((topic_Meet.f (a0.extract 0 ((mn (a0.size : Int) 200) : Int).toNat) (a0.extract 0 ((mn (a0.size : Int) 200) : Int).toNat)).bind fun t239 => (rivuletlaw03_TopicOrder.j0 k (a0.extract 0 ((mn (a0.size : Int) 200) : Int).toNat) (a1.extract 0 ((mn (a1.size : Int) 200) : Int).toNat) (a2.extract 0 ((mn (a2.size : Int) 200) : Int).toNat) (!t239))) else (rivuletlaw03_TopicOrder.j0 k (a0.extract 0 ((mn (a0.size : Int) 200) : Int).toNat) (a1.extract 0 ((mn (a1.size : Int) 200) : Int).toNat) (a2.extract 0 ((mn (a2.size : Int) 200) : Int).toNat) true))) else (rivuletlaw03_TopicOrder.j0 k (a0.extract 0 ((mn (a0.size : Int) 200) : Int).toNat) (a1.extract 0 ((mn (a1.size : Int) 200) : Int).toNat) (a2.extract 0 ((mn (a2.size : Int) 200) : Int).toNat) false))) else (none)) else (none)) else (none)) else (none)) else (none)) else (none)
theorem rivuletlaw03_TopicOrder.mono_l : ∀ k, (∀ y0 y1 y2 y3, LeO (rivuletlaw03_TopicOrder.j0 k y0 y1 y2 y3) (rivuletlaw03_TopicOrder.j0 (k + 1) y0 y1 y2 y3)) ∧ (∀ y0 y1 y2 y3, LeO (rivuletlaw03_TopicOrder.j1 k y0 y1 y2 y3) (rivuletlaw03_TopicOrder.j1 (k + 1) y0 y1 y2 y3)) ∧ (∀ y0 y1 y2 y3, LeO (rivuletlaw03_TopicOrder.j2 k y0 y1 y2 y3) (rivuletlaw03_TopicOrder.j2 (k + 1) y0 y1 y2 y3))
  | 0 => ⟨fun _ _ _ _ r h => by simp [rivuletlaw03_TopicOrder.j0] at h, fun _ _ _ _ r h => by simp [rivuletlaw03_TopicOrder.j1] at h, fun _ _ _ _ r h => by simp [rivuletlaw03_TopicOrder.j2] at h⟩
  | k + 1 => by
    obtain ⟨ih0, ih1, ih2⟩ := rivuletlaw03_TopicOrder.mono_l k
    refine ⟨?_, ?_, ?_⟩
    · intro y0 y1 y2 y3
      unfold rivuletlaw03_TopicOrder.j0
      repeat' first
      | (with_reducible exact ih0 _ _ _ _)
      | (with_reducible exact ih1 _ _ _ _)
      | (with_reducible exact ih2 _ _ _ _)
      | (with_reducible exact LeO.refl _)
      | (with_reducible exact LeO.none _)
      | (with_reducible refine LeO.ite ?_ ?_)
      | (with_reducible refine LeO.bind ?_ (fun _ => ?_))
      | exact ih0 _ _ _ _
      | exact ih1 _ _ _ _
      | exact ih2 _ _ _ _
      | exact LeO.none _
      | refine LeO.ite ?_ ?_
      | refine LeO.bind ?_ (fun _ => ?_)
    · intro y0 y1 y2 y3
      unfold rivuletlaw03_TopicOrder.j1
      repeat' first
      | (with_reducible exact ih0 _ _ _ _)
      | (with_reducible exact ih1 _ _ _ _)
      | (with_reducible exact ih2 _ _ _ _)
      | (with_reducible exact LeO.refl _)
      | (with_reducible exact LeO.none _)
      | (with_reducible refine LeO.ite ?_ ?_)
      | (with_reducible refine LeO.bind ?_ (fun _ => ?_))
      | exact ih0 _ _ _ _
      | exact ih1 _ _ _ _
      | exact ih2 _ _ _ _
      | exact LeO.none _
      | refine LeO.ite ?_ ?_
      | refine LeO.bind ?_ (fun _ => ?_)
    · intro y0 y1 y2 y3
      unfold rivuletlaw03_TopicOrder.j2
      repeat' first
      | (with_reducible exact ih0 _ _ _ _)
      | (with_reducible exact ih1 _ _ _ _)
      | (with_reducible exact ih2 _ _ _ _)
      | (with_reducible exact LeO.refl _)
      | (with_reducible exact LeO.none _)
      | (with_reducible refine LeO.ite ?_ ?_)
      | (with_reducible refine LeO.bind ?_ (fun _ => ?_))
      | exact ih0 _ _ _ _
      | exact ih1 _ _ _ _
      | exact ih2 _ _ _ _
      | exact LeO.none _
      | refine LeO.ite ?_ ?_
      | refine LeO.bind ?_ (fun _ => ?_)
theorem rivuletlaw03_TopicOrder.mono : ∀ a0 a1 a2 k, LeO (rivuletlaw03_TopicOrder.f k a0 a1 a2) (rivuletlaw03_TopicOrder.f (k + 1) a0 a1 a2) := by
  intro a0 a1 a2 k
  obtain ⟨ih0, ih1, ih2⟩ := rivuletlaw03_TopicOrder.mono_l k
  unfold rivuletlaw03_TopicOrder.f
  repeat' first
      | (with_reducible exact ih0 _ _ _ _)
      | (with_reducible exact ih1 _ _ _ _)
      | (with_reducible exact ih2 _ _ _ _)
      | (with_reducible exact LeO.refl _)
      | (with_reducible exact LeO.none _)
      | (with_reducible refine LeO.ite ?_ ?_)
      | (with_reducible refine LeO.bind ?_ (fun _ => ?_))
      | exact ih0 _ _ _ _
      | exact ih1 _ _ _ _
      | exact ih2 _ _ _ _
      | exact LeO.none _
      | refine LeO.ite ?_ ?_
      | refine LeO.bind ?_ (fun _ => ?_)
set_option maxHeartbeats 8000000 in
set_option maxRecDepth 100000 in
theorem rivuletlaw03_TopicOrder.calls (k : Nat) (a0 : ByteArray) (a1 : ByteArray) (a2 : ByteArray) (r : Bool) (w : World) (h : rivuletlaw03_TopicOrder.f k a0 a1 a2 = some r) :
    Calls Tryd.prog 6 #[.string a0, .string a1, .string a2] w fun e w' => e = .returned (.bool r) ∧ Below w.heap.size w w' := by
  have HB := Aside0.mk (Below.refl w.heap.size w)
  have H : (if 0 ≤ (mn (a0.size : Int) 200) then (if (mn (a0.size : Int) 200) ≤ (a0.size : Int) then (if 0 ≤ (mn (a1.size : Int) 200) then (if (mn (a1.size : Int) 200) ≤ (a1.size : Int) then (if 0 ≤ (mn (a2.size : Int) 200) then (if (mn (a2.size : Int) 200) ≤ (a2.size : Int) then ((topic_Filter.f (a0.extract 0 ((mn (a0.size : Int) 200) : Int).toNat)).bind fun t237 => (if t237 = true then ((topic_Covers.f (a0.extract 0 ((mn (a0.size : Int) 200) : Int).toNat) (a0.extract 0 ((mn (a0.size : Int) 200) : Int).toNat)).bind fun t238 => (if t238 = true then ((topic_Meet.f (a0.extract 0 ((mn (a0.size : Int) 200) : Int).toNat) (a0.extract 0 ((mn (a0.size : Int) 200) : Int).toNat)).bind fun t239 => (rivuletlaw03_TopicOrder.j0 k (a0.extract 0 ((mn (a0.size : Int) 200) : Int).toNat) (a1.extract 0 ((mn (a1.size : Int) 200) : Int).toNat) (a2.extract 0 ((mn (a2.size : Int) 200) : Int).toNat) (!t239))) else (rivuletlaw03_TopicOrder.j0 k (a0.extract 0 ((mn (a0.size : Int) 200) : Int).toNat) (a1.extract 0 ((mn (a1.size : Int) 200) : Int).toNat) (a2.extract 0 ((mn (a2.size : Int) 200) : Int).toNat) true))) else (rivuletlaw03_TopicOrder.j0 k (a0.extract 0 ((mn (a0.size : Int) 200) : Int).toNat) (a1.extract 0 ((mn (a1.size : Int) 200) : Int).toNat) (a2.extract 0 ((mn (a2.size : Int) 200) : Int).toNat) false))) else (none)) else (none)) else (none)) else (none)) else (none)) else (none)) = some r := h
  clear h
  obtain ⟨ji4, hji4⟩ : ∃ j_ : Int, (mn (a0.size : Int) 200) = j_ := ⟨_, rfl⟩
  replace H : (if 0 ≤ (ji4) then (if (ji4) ≤ (a0.size : Int) then (if 0 ≤ (mn (a1.size : Int) 200) then (if (mn (a1.size : Int) 200) ≤ (a1.size : Int) then (if 0 ≤ (mn (a2.size : Int) 200) then (if (mn (a2.size : Int) 200) ≤ (a2.size : Int) then ((topic_Filter.f (a0.extract 0 ((ji4) : Int).toNat)).bind fun t237 => (if t237 = true then ((topic_Covers.f (a0.extract 0 ((ji4) : Int).toNat) (a0.extract 0 ((ji4) : Int).toNat)).bind fun t238 => (if t238 = true then ((topic_Meet.f (a0.extract 0 ((ji4) : Int).toNat) (a0.extract 0 ((ji4) : Int).toNat)).bind fun t239 => (rivuletlaw03_TopicOrder.j0 k (a0.extract 0 ((ji4) : Int).toNat) (a1.extract 0 ((mn (a1.size : Int) 200) : Int).toNat) (a2.extract 0 ((mn (a2.size : Int) 200) : Int).toNat) (!t239))) else (rivuletlaw03_TopicOrder.j0 k (a0.extract 0 ((ji4) : Int).toNat) (a1.extract 0 ((mn (a1.size : Int) 200) : Int).toNat) (a2.extract 0 ((mn (a2.size : Int) 200) : Int).toNat) true))) else (rivuletlaw03_TopicOrder.j0 k (a0.extract 0 ((ji4) : Int).toNat) (a1.extract 0 ((mn (a1.size : Int) 200) : Int).toNat) (a2.extract 0 ((mn (a2.size : Int) 200) : Int).toNat) false))) else (none)) else (none)) else (none)) else (none)) else (none)) else (none)) = some r := by first | (rw [hji4] at H; exact H) | (simp only [hji4] at H ⊢; exact H)
  (try (have hji4h : ji4 ≤ 200 := by (rw [← hji4]; unfold mn; (repeat' split) <;> omega)))
  (try (have hji4g : ji4 ≤ 64 := by omega))
  (try (have hji4l : 0 ≤ ji4 := by (rw [← hji4]; unfold mn; (repeat' split) <;> omega)))
  (try (have hji4m : 0 ≤ ji4 := by omega))
  have hji4_ : (if 200 < (a0.size : Int) then 200 else (a0.size : Int)) = ji4 := hji4
  obtain ⟨Sji4, hSji4⟩ : ∃ S_ : ByteArray, a0.extract 0 (ji4 : Int).toNat = S_ := ⟨_, rfl⟩
  simp only [hSji4] at H
  by_cases c5 : 0 ≤ (ji4)
  · rw [if_pos c5] at H
    have c5b0 := eq_true c5
    have c5b1 : decide (0 ≤ (ji4)) = true := decide_eq_true c5
    clear c5
    by_cases c6 : (ji4) ≤ (a0.size : Int)
    · rw [if_pos c6] at H
      have c6b0 := eq_true c6
      have c6b1 : decide ((ji4) ≤ (a0.size : Int)) = true := decide_eq_true c6
      clear c6
      obtain ⟨ji7, hji7⟩ : ∃ j_ : Int, (mn (a1.size : Int) 200) = j_ := ⟨_, rfl⟩
      replace H : (if 0 ≤ (ji7) then (if (ji7) ≤ (a1.size : Int) then (if 0 ≤ (mn (a2.size : Int) 200) then (if (mn (a2.size : Int) 200) ≤ (a2.size : Int) then ((topic_Filter.f Sji4).bind fun t237 => (if t237 = true then ((topic_Covers.f Sji4 Sji4).bind fun t238 => (if t238 = true then ((topic_Meet.f Sji4 Sji4).bind fun t239 => (rivuletlaw03_TopicOrder.j0 k Sji4 (a1.extract 0 ((ji7) : Int).toNat) (a2.extract 0 ((mn (a2.size : Int) 200) : Int).toNat) (!t239))) else (rivuletlaw03_TopicOrder.j0 k Sji4 (a1.extract 0 ((ji7) : Int).toNat) (a2.extract 0 ((mn (a2.size : Int) 200) : Int).toNat) true))) else (rivuletlaw03_TopicOrder.j0 k Sji4 (a1.extract 0 ((ji7) : Int).toNat) (a2.extract 0 ((mn (a2.size : Int) 200) : Int).toNat) false))) else (none)) else (none)) else (none)) else (none)) = some r := by first | (rw [hji7] at H; exact H) | (simp only [hji7] at H ⊢; exact H)
      (try (have hji7h : ji7 ≤ 200 := by (rw [← hji7]; unfold mn; (repeat' split) <;> omega)))
      (try (have hji7g : ji7 ≤ 64 := by omega))
      (try (have hji7l : 0 ≤ ji7 := by (rw [← hji7]; unfold mn; (repeat' split) <;> omega)))
      (try (have hji7m : 0 ≤ ji7 := by omega))
      have hji7_ : (if 200 < (a1.size : Int) then 200 else (a1.size : Int)) = ji7 := hji7
      obtain ⟨Sji7, hSji7⟩ : ∃ S_ : ByteArray, a1.extract 0 (ji7 : Int).toNat = S_ := ⟨_, rfl⟩
      simp only [hSji7] at H
      by_cases c8 : 0 ≤ (ji7)
      · rw [if_pos c8] at H
        have c8b0 := eq_true c8
        have c8b1 : decide (0 ≤ (ji7)) = true := decide_eq_true c8
        clear c8
        by_cases c9 : (ji7) ≤ (a1.size : Int)
        · rw [if_pos c9] at H
          have c9b0 := eq_true c9
          have c9b1 : decide ((ji7) ≤ (a1.size : Int)) = true := decide_eq_true c9
          clear c9
          obtain ⟨ji10, hji10⟩ : ∃ j_ : Int, (mn (a2.size : Int) 200) = j_ := ⟨_, rfl⟩
          replace H : (if 0 ≤ (ji10) then (if (ji10) ≤ (a2.size : Int) then ((topic_Filter.f Sji4).bind fun t237 => (if t237 = true then ((topic_Covers.f Sji4 Sji4).bind fun t238 => (if t238 = true then ((topic_Meet.f Sji4 Sji4).bind fun t239 => (rivuletlaw03_TopicOrder.j0 k Sji4 Sji7 (a2.extract 0 ((ji10) : Int).toNat) (!t239))) else (rivuletlaw03_TopicOrder.j0 k Sji4 Sji7 (a2.extract 0 ((ji10) : Int).toNat) true))) else (rivuletlaw03_TopicOrder.j0 k Sji4 Sji7 (a2.extract 0 ((ji10) : Int).toNat) false))) else (none)) else (none)) = some r := by first | (rw [hji10] at H; exact H) | (simp only [hji10] at H ⊢; exact H)
          (try (have hji10h : ji10 ≤ 200 := by (rw [← hji10]; unfold mn; (repeat' split) <;> omega)))
          (try (have hji10g : ji10 ≤ 64 := by omega))
          (try (have hji10l : 0 ≤ ji10 := by (rw [← hji10]; unfold mn; (repeat' split) <;> omega)))
          (try (have hji10m : 0 ≤ ji10 := by omega))
          have hji10_ : (if 200 < (a2.size : Int) then 200 else (a2.size : Int)) = ji10 := hji10
          obtain ⟨Sji10, hSji10⟩ : ∃ S_ : ByteArray, a2.extract 0 (ji10 : Int).toNat = S_ := ⟨_, rfl⟩
          simp only [hSji10] at H
          by_cases c11 : 0 ≤ (ji10)
          · rw [if_pos c11] at H
            have c11b0 := eq_true c11
            have c11b1 : decide (0 ≤ (ji10)) = true := decide_eq_true c11
            clear c11
            by_cases c12 : (ji10) ≤ (a2.size : Int)
            · rw [if_pos c12] at H
              have c12b0 := eq_true c12
              have c12b1 : decide ((ji10) ≤ (a2.size : Int)) = true := decide_eq_true c12
              clear c12
              have HC13 := Aside0.mk H
              clear H
              go_enter Tryd.func6, Tryd.ntmps6
              go_upto_region 4 with (fail)
              go_cut [35] (fun v35 wc => ∃ (kq : Nat) (x35_12 : Bool), v35 = .bool x35_12 ∧ Aside0 (rivuletlaw03_TopicOrder.j0 kq Sji4 Sji7 Sji10 x35_12 = some r) ∧ Aside0 (kq ≤ k) ∧ Aside0 (Below w.heap.size w wc))
              case first =>
                have H := HC13.out
                clear HC13
                replace H := Option.bind_eq_some_iff.mp H
                obtain ⟨t237, A140, H⟩ := H
                replace H : (if t237 = true then ((topic_Covers.f Sji4 Sji4).bind fun t238 => (if t238 = true then ((topic_Meet.f Sji4 Sji4).bind fun t239 => (rivuletlaw03_TopicOrder.j0 k Sji4 Sji7 Sji10 (!t239))) else (rivuletlaw03_TopicOrder.j0 k Sji4 Sji7 Sji10 true))) else (rivuletlaw03_TopicOrder.j0 k Sji4 Sji7 Sji10 false)) = some r := H
                have A14 := Aside0.mk A140
                clear A140
                by_cases c15 : t237 = true
                · subst c15
                  have H1 : ((topic_Covers.f Sji4 Sji4).bind fun t238 => (if t238 = true then ((topic_Meet.f Sji4 Sji4).bind fun t239 => (rivuletlaw03_TopicOrder.j0 k Sji4 Sji7 Sji10 (!t239))) else (rivuletlaw03_TopicOrder.j0 k Sji4 Sji7 Sji10 true))) = some r := by rw [if_pos rfl] at H; exact H
                  clear H
                  have H := H1
                  clear H1
                  replace H := Option.bind_eq_some_iff.mp H
                  obtain ⟨t238, A160, H⟩ := H
                  replace H : (if t238 = true then ((topic_Meet.f Sji4 Sji4).bind fun t239 => (rivuletlaw03_TopicOrder.j0 k Sji4 Sji7 Sji10 (!t239))) else (rivuletlaw03_TopicOrder.j0 k Sji4 Sji7 Sji10 true)) = some r := H
                  have A16 := Aside0.mk A160
                  clear A160
                  by_cases c17 : t238 = true
                  · subst c17
                    have H1 : ((topic_Meet.f Sji4 Sji4).bind fun t239 => (rivuletlaw03_TopicOrder.j0 k Sji4 Sji7 Sji10 (!t239))) = some r := by rw [if_pos rfl] at H; exact H
                    clear H
                    have H := H1
                    clear H1
                    replace H := Option.bind_eq_some_iff.mp H
                    obtain ⟨t239, A180, H⟩ := H
                    replace H : (rivuletlaw03_TopicOrder.j0 k Sji4 Sji7 Sji10 (!t239)) = some r := H
                    have A18 := Aside0.mk A180
                    clear A180
                    have H' := Aside0.mk H
                    clear H
                    go_wp2_with (first | ((with_reducible refine gate_callee (f := 13) rfl ?_); refine goesL_ (some 23) rfl rfl Tryd.func13 (by kernel_rfl) rfl #[.string Sji4] rfl (by (try simp only [List.map_toArray, List.map_cons, List.map_nil]); first | done | (simp only [hji4]; rfl) | rfl | (simp only [List.length_drop, List.length_take]; rfl)) ?_; (with_reducible refine (topic_Filter.calls Sji4 true _ A14.out).mono ?_); rintro e w19 ⟨rfl, hb⟩; refine ⟨_, rfl, ?_⟩; have n0_ := Aside0.mk (below_step (by repeat (first | (with_reducible first | exact HB.out | apply below_alloc | apply pw_below_drewN | apply below_drew1) | exact HB.out)) hb); clear HB; have HB := n0_; clear n0_; (try clear hb); (try clear hb2); (try clear hk); (try clear hi)) | (go_at_call 23; (with_reducible refine (topic_Covers.calls Sji4 Sji4 true _ A16.out).mono ?_); rintro e w20 ⟨rfl, hb⟩; have n0_ := Aside0.mk (below_step (by repeat (first | (with_reducible first | exact HB.out | apply below_alloc | apply pw_below_drewN | apply below_drew1) | exact HB.out)) hb); clear HB; have HB := n0_; clear n0_; (try clear hb); (try clear hb2); (try clear hk); (try clear hi)) | (go_at_call 25; (with_reducible refine (topic_Meet.calls Sji4 Sji4 t239 _ A18.out).mono ?_); rintro e w21 ⟨rfl, hb⟩; have n0_ := Aside0.mk (below_step (by repeat (first | (with_reducible first | exact HB.out | apply below_alloc | apply pw_below_drewN | apply below_drew1) | exact HB.out)) hb); clear HB; have HB := n0_; clear n0_; (try clear hb); (try clear hb2); (try clear hk); (try clear hi)))
                    go_meet
                    case rel => exact ⟨_, (!t239), (by first | rfl | (simp; done) | (simp [*]; done)), H', ⟨by first | omega | exact Nat.le_refl _⟩, ⟨by repeat (first | (with_reducible first | exact HB.out | apply below_alloc | apply pw_below_drewN | apply below_drew1) | exact HB.out)⟩⟩
                  · replace c17 := Bool.eq_false_iff.mpr c17
                    subst c17
                    have H1 : (rivuletlaw03_TopicOrder.j0 k Sji4 Sji7 Sji10 true) = some r := by rw [if_neg (show ¬ (false = true) by decide)] at H; exact H
                    clear H
                    have H := H1
                    clear H1
                    have H' := Aside0.mk H
                    clear H
                    go_wp2_with (first | ((with_reducible refine gate_callee (f := 13) rfl ?_); refine goesL_ (some 23) rfl rfl Tryd.func13 (by kernel_rfl) rfl #[.string Sji4] rfl (by (try simp only [List.map_toArray, List.map_cons, List.map_nil]); first | done | (simp only [hji4]; rfl) | rfl | (simp only [List.length_drop, List.length_take]; rfl)) ?_; (with_reducible refine (topic_Filter.calls Sji4 true _ A14.out).mono ?_); rintro e w22 ⟨rfl, hb⟩; refine ⟨_, rfl, ?_⟩; have n0_ := Aside0.mk (below_step (by repeat (first | (with_reducible first | exact HB.out | apply below_alloc | apply pw_below_drewN | apply below_drew1) | exact HB.out)) hb); clear HB; have HB := n0_; clear n0_; (try clear hb); (try clear hb2); (try clear hk); (try clear hi)) | (go_at_call 23; (with_reducible refine (topic_Covers.calls Sji4 Sji4 false _ A16.out).mono ?_); rintro e w23 ⟨rfl, hb⟩; have n0_ := Aside0.mk (below_step (by repeat (first | (with_reducible first | exact HB.out | apply below_alloc | apply pw_below_drewN | apply below_drew1) | exact HB.out)) hb); clear HB; have HB := n0_; clear n0_; (try clear hb); (try clear hb2); (try clear hk); (try clear hi)))
                    go_meet
                    case rel => exact ⟨_, (true), (by first | rfl | (simp; done) | (simp [*]; done)), H', ⟨by first | omega | exact Nat.le_refl _⟩, ⟨by repeat (first | (with_reducible first | exact HB.out | apply below_alloc | apply pw_below_drewN | apply below_drew1) | exact HB.out)⟩⟩
                · replace c15 := Bool.eq_false_iff.mpr c15
                  subst c15
                  have H1 : (rivuletlaw03_TopicOrder.j0 k Sji4 Sji7 Sji10 false) = some r := by rw [if_neg (show ¬ (false = true) by decide)] at H; exact H
                  clear H
                  have H := H1
                  clear H1
                  have H' := Aside0.mk H
                  clear H
                  go_wp2_with (first | ((with_reducible refine gate_callee (f := 13) rfl ?_); refine goesL_ (some 23) rfl rfl Tryd.func13 (by kernel_rfl) rfl #[.string Sji4] rfl (by (try simp only [List.map_toArray, List.map_cons, List.map_nil]); first | done | (simp only [hji4]; rfl) | rfl | (simp only [List.length_drop, List.length_take]; rfl)) ?_; (with_reducible refine (topic_Filter.calls Sji4 false _ A14.out).mono ?_); rintro e w24 ⟨rfl, hb⟩; refine ⟨_, rfl, ?_⟩; have n0_ := Aside0.mk (below_step (by repeat (first | (with_reducible first | exact HB.out | apply below_alloc | apply pw_below_drewN | apply below_drew1) | exact HB.out)) hb); clear HB; have HB := n0_; clear n0_; (try clear hb); (try clear hb2); (try clear hk); (try clear hi)))
                  go_meet
                  case rel => exact ⟨_, (false), (by first | rfl | (simp; done) | (simp [*]; done)), H', ⟨by first | omega | exact Nat.le_refl _⟩, ⟨by repeat (first | (with_reducible first | exact HB.out | apply below_alloc | apply pw_below_drewN | apply below_drew1) | exact HB.out)⟩⟩
              case rest =>
                clear HC13
                try clear c1
                try clear p2
                try clear c5
                try clear c5b0
                try clear c5b1
                try clear c6
                try clear c6b0
                try clear c6b1
                try clear c8
                try clear c8b0
                try clear c8b1
                try clear c9
                try clear c9b0
                try clear c9b1
                try clear c11
                try clear c11b0
                try clear c11b1
                try clear c12
                try clear c12b0
                try clear c12b1
                try clear c13
                try clear c15
                try clear c17
                obtain ⟨kq, x35_12, rfl, HA, HJ12, HB⟩ := hcut
                cases kq with
                | zero => exact absurd HA.out (by simp [rivuletlaw03_TopicOrder.j0])
                | succ kj12 =>
                  have H := HA.out
                  clear HA
                  simp only [rivuletlaw03_TopicOrder.j0] at H
                  by_cases c25 : x35_12 = true
                  · subst c25
                    have H1 : (some false) = some r := by rw [if_pos rfl] at H; exact H
                    clear H
                    have H := H1
                    clear H1
                    obtain rfl := Option.some.inj H
                    go_wp2
                    go_ret
                    exact ⟨by first | rfl | (simp [errW_none, errW_some] <;> rfl) | (simp only [← hji4, ← hji7, ← hji10]; first | rfl | (simp [errW_none, errW_some] <;> rfl)) | (simp [*, errW_none, errW_some] <;> rfl), by repeat (first | (with_reducible first | exact HB.out | apply below_alloc | apply pw_below_drewN | apply below_drew1) | exact HB.out)⟩
                  · replace c25 := Bool.eq_false_iff.mpr c25
                    subst c25
                    have H1 : ((topic_Covers.f Sji4 Sji7).bind fun t240 => (if t240 = true then ((topic_Covers.f Sji7 Sji10).bind fun t241 => (if t241 = true then ((topic_Covers.f Sji4 Sji10).bind fun t242 => (rivuletlaw03_TopicOrder.j1 kj12 Sji4 Sji7 Sji10 (!t242))) else (rivuletlaw03_TopicOrder.j1 kj12 Sji4 Sji7 Sji10 false))) else (rivuletlaw03_TopicOrder.j1 kj12 Sji4 Sji7 Sji10 false))) = some r := by rw [if_neg (show ¬ (false = true) by decide)] at H; exact H
                    clear H
                    have H := H1
                    clear H1
                    have HC26 := Aside0.mk H
                    clear H
                    go_upto_region 6 with (fail)
                    go_cut [49] (fun v49 wc => ∃ (kq : Nat) (x49_25 : Bool), v49 = .bool x49_25 ∧ Aside0 (rivuletlaw03_TopicOrder.j1 kq Sji4 Sji7 Sji10 x49_25 = some r) ∧ Aside0 (kq ≤ kj12) ∧ Aside0 (Below w.heap.size w wc))
                    case first =>
                      have H := HC26.out
                      clear HC26
                      replace H := Option.bind_eq_some_iff.mp H
                      obtain ⟨t240, A270, H⟩ := H
                      replace H : (if t240 = true then ((topic_Covers.f Sji7 Sji10).bind fun t241 => (if t241 = true then ((topic_Covers.f Sji4 Sji10).bind fun t242 => (rivuletlaw03_TopicOrder.j1 kj12 Sji4 Sji7 Sji10 (!t242))) else (rivuletlaw03_TopicOrder.j1 kj12 Sji4 Sji7 Sji10 false))) else (rivuletlaw03_TopicOrder.j1 kj12 Sji4 Sji7 Sji10 false)) = some r := H
                      have A27 := Aside0.mk A270
                      clear A270
                      by_cases c28 : t240 = true
                      · subst c28
                        have H1 : ((topic_Covers.f Sji7 Sji10).bind fun t241 => (if t241 = true then ((topic_Covers.f Sji4 Sji10).bind fun t242 => (rivuletlaw03_TopicOrder.j1 kj12 Sji4 Sji7 Sji10 (!t242))) else (rivuletlaw03_TopicOrder.j1 kj12 Sji4 Sji7 Sji10 false))) = some r := by rw [if_pos rfl] at H; exact H
                        clear H
                        have H := H1
                        clear H1
                        replace H := Option.bind_eq_some_iff.mp H
                        obtain ⟨t241, A290, H⟩ := H
                        replace H : (if t241 = true then ((topic_Covers.f Sji4 Sji10).bind fun t242 => (rivuletlaw03_TopicOrder.j1 kj12 Sji4 Sji7 Sji10 (!t242))) else (rivuletlaw03_TopicOrder.j1 kj12 Sji4 Sji7 Sji10 false)) = some r := H
                        have A29 := Aside0.mk A290
                        clear A290
                        by_cases c30 : t241 = true
                        · subst c30
                          have H1 : ((topic_Covers.f Sji4 Sji10).bind fun t242 => (rivuletlaw03_TopicOrder.j1 kj12 Sji4 Sji7 Sji10 (!t242))) = some r := by rw [if_pos rfl] at H; exact H
                          clear H
                          have H := H1
                          clear H1
                          replace H := Option.bind_eq_some_iff.mp H
                          obtain ⟨t242, A310, H⟩ := H
                          replace H : (rivuletlaw03_TopicOrder.j1 kj12 Sji4 Sji7 Sji10 (!t242)) = some r := H
                          have A31 := Aside0.mk A310
                          clear A310
                          have H' := Aside0.mk H
                          clear H
                          go_wp2_with (first | ((with_reducible refine gate_callee (f := 23) rfl ?_); refine goesL_ (some 38) rfl rfl Tryd.func23 (by kernel_rfl) rfl #[.string Sji4, .string Sji7] rfl (by (try simp only [List.map_toArray, List.map_cons, List.map_nil]); first | done | (simp only [hji4, hji7]; rfl) | rfl | (simp only [List.length_drop, List.length_take]; rfl)) ?_; (with_reducible refine (topic_Covers.calls Sji4 Sji7 true _ A27.out).mono ?_); rintro e w32 ⟨rfl, hb⟩; refine ⟨_, rfl, ?_⟩; have n0_ := Aside0.mk (below_step (by repeat (first | (with_reducible first | exact HB.out | apply below_alloc | apply pw_below_drewN | apply below_drew1) | exact HB.out)) hb); clear HB; have HB := n0_; clear n0_; (try clear hb); (try clear hb2); (try clear hk); (try clear hi)) | (go_at_call 23; (with_reducible refine (topic_Covers.calls Sji7 Sji10 true _ A29.out).mono ?_); rintro e w33 ⟨rfl, hb⟩; have n0_ := Aside0.mk (below_step (by repeat (first | (with_reducible first | exact HB.out | apply below_alloc | apply pw_below_drewN | apply below_drew1) | exact HB.out)) hb); clear HB; have HB := n0_; clear n0_; (try clear hb); (try clear hb2); (try clear hk); (try clear hi)) | (go_at_call 23; (with_reducible refine (topic_Covers.calls Sji4 Sji10 t242 _ A31.out).mono ?_); rintro e w34 ⟨rfl, hb⟩; have n0_ := Aside0.mk (below_step (by repeat (first | (with_reducible first | exact HB.out | apply below_alloc | apply pw_below_drewN | apply below_drew1) | exact HB.out)) hb); clear HB; have HB := n0_; clear n0_; (try clear hb); (try clear hb2); (try clear hk); (try clear hi)))
                          go_meet
                          case rel => exact ⟨_, (!t242), (by first | rfl | (simp; done) | (simp [*]; done)), H', ⟨by have := HJ12.out; first | omega | exact Nat.le_refl _⟩, ⟨by repeat (first | (with_reducible first | exact HB.out | apply below_alloc | apply pw_below_drewN | apply below_drew1) | exact HB.out)⟩⟩
                        · replace c30 := Bool.eq_false_iff.mpr c30
                          subst c30
                          have H1 : (rivuletlaw03_TopicOrder.j1 kj12 Sji4 Sji7 Sji10 false) = some r := by rw [if_neg (show ¬ (false = true) by decide)] at H; exact H
                          clear H
                          have H := H1
                          clear H1
                          have H' := Aside0.mk H
                          clear H
                          go_wp2_with (first | ((with_reducible refine gate_callee (f := 23) rfl ?_); refine goesL_ (some 38) rfl rfl Tryd.func23 (by kernel_rfl) rfl #[.string Sji4, .string Sji7] rfl (by (try simp only [List.map_toArray, List.map_cons, List.map_nil]); first | done | (simp only [hji4, hji7]; rfl) | rfl | (simp only [List.length_drop, List.length_take]; rfl)) ?_; (with_reducible refine (topic_Covers.calls Sji4 Sji7 true _ A27.out).mono ?_); rintro e w35 ⟨rfl, hb⟩; refine ⟨_, rfl, ?_⟩; have n0_ := Aside0.mk (below_step (by repeat (first | (with_reducible first | exact HB.out | apply below_alloc | apply pw_below_drewN | apply below_drew1) | exact HB.out)) hb); clear HB; have HB := n0_; clear n0_; (try clear hb); (try clear hb2); (try clear hk); (try clear hi)) | (go_at_call 23; (with_reducible refine (topic_Covers.calls Sji7 Sji10 false _ A29.out).mono ?_); rintro e w36 ⟨rfl, hb⟩; have n0_ := Aside0.mk (below_step (by repeat (first | (with_reducible first | exact HB.out | apply below_alloc | apply pw_below_drewN | apply below_drew1) | exact HB.out)) hb); clear HB; have HB := n0_; clear n0_; (try clear hb); (try clear hb2); (try clear hk); (try clear hi)))
                          go_meet
                          case rel => exact ⟨_, (false), (by first | rfl | (simp; done) | (simp [*]; done)), H', ⟨by have := HJ12.out; first | omega | exact Nat.le_refl _⟩, ⟨by repeat (first | (with_reducible first | exact HB.out | apply below_alloc | apply pw_below_drewN | apply below_drew1) | exact HB.out)⟩⟩
                      · replace c28 := Bool.eq_false_iff.mpr c28
                        subst c28
                        have H1 : (rivuletlaw03_TopicOrder.j1 kj12 Sji4 Sji7 Sji10 false) = some r := by rw [if_neg (show ¬ (false = true) by decide)] at H; exact H
                        clear H
                        have H := H1
                        clear H1
                        have H' := Aside0.mk H
                        clear H
                        go_wp2_with (first | ((with_reducible refine gate_callee (f := 23) rfl ?_); refine goesL_ (some 38) rfl rfl Tryd.func23 (by kernel_rfl) rfl #[.string Sji4, .string Sji7] rfl (by (try simp only [List.map_toArray, List.map_cons, List.map_nil]); first | done | (simp only [hji4, hji7]; rfl) | rfl | (simp only [List.length_drop, List.length_take]; rfl)) ?_; (with_reducible refine (topic_Covers.calls Sji4 Sji7 false _ A27.out).mono ?_); rintro e w37 ⟨rfl, hb⟩; refine ⟨_, rfl, ?_⟩; have n0_ := Aside0.mk (below_step (by repeat (first | (with_reducible first | exact HB.out | apply below_alloc | apply pw_below_drewN | apply below_drew1) | exact HB.out)) hb); clear HB; have HB := n0_; clear n0_; (try clear hb); (try clear hb2); (try clear hk); (try clear hi)))
                        go_meet
                        case rel => exact ⟨_, (false), (by first | rfl | (simp; done) | (simp [*]; done)), H', ⟨by have := HJ12.out; first | omega | exact Nat.le_refl _⟩, ⟨by repeat (first | (with_reducible first | exact HB.out | apply below_alloc | apply pw_below_drewN | apply below_drew1) | exact HB.out)⟩⟩
                    case rest =>
                      clear HC26
                      try clear c1
                      try clear c2
                      try clear p2
                      try clear c3
                      try clear c5
                      try clear c5b0
                      try clear c5b1
                      try clear c6
                      try clear c6b0
                      try clear c6b1
                      try clear c8
                      try clear c8b0
                      try clear c8b1
                      try clear c9
                      try clear c9b0
                      try clear c9b1
                      try clear c11
                      try clear c11b0
                      try clear c11b1
                      try clear c12
                      try clear c12b0
                      try clear c12b1
                      try clear c13
                      try clear c15
                      try clear c17
                      try clear c23
                      try clear c25
                      try clear c28
                      try clear c30
                      try clear p2
                      obtain ⟨kq, x49_25, rfl, HA, HJ25, HB⟩ := hcut
                      cases kq with
                      | zero => exact absurd HA.out (by simp [rivuletlaw03_TopicOrder.j1])
                      | succ kj25 =>
                        have H := HA.out
                        clear HA
                        simp only [rivuletlaw03_TopicOrder.j1] at H
                        by_cases c38 : x49_25 = true
                        · subst c38
                          have H1 : (some false) = some r := by rw [if_pos rfl] at H; exact H
                          clear H
                          have H := H1
                          clear H1
                          obtain rfl := Option.some.inj H
                          go_wp2
                          go_ret
                          exact ⟨by first | rfl | (simp [errW_none, errW_some] <;> rfl) | (simp only [← hji4, ← hji7, ← hji10]; first | rfl | (simp [errW_none, errW_some] <;> rfl)) | (simp [*, errW_none, errW_some] <;> rfl), by repeat (first | (with_reducible first | exact HB.out | apply below_alloc | apply pw_below_drewN | apply below_drew1) | exact HB.out)⟩
                        · replace c38 := Bool.eq_false_iff.mpr c38
                          subst c38
                          have H1 : ((topic_Match.f Sji4 Sji10).bind fun t243 => (if t243 = true then ((topic_Match.f Sji7 Sji10).bind fun t244 => (if t244 = true then ((topic_Meet.f Sji4 Sji7).bind fun t245 => (rivuletlaw03_TopicOrder.j2 kj25 Sji4 Sji7 Sji10 (!t245))) else (rivuletlaw03_TopicOrder.j2 kj25 Sji4 Sji7 Sji10 false))) else (rivuletlaw03_TopicOrder.j2 kj25 Sji4 Sji7 Sji10 false))) = some r := by rw [if_neg (show ¬ (false = true) by decide)] at H; exact H
                          clear H
                          have H := H1
                          clear H1
                          have HC39 := Aside0.mk H
                          clear H
                          go_upto_region 8 with (fail)
                          go_cut [63] (fun v63 wc => ∃ (kq : Nat) (x63_38 : Bool), v63 = .bool x63_38 ∧ Aside0 (rivuletlaw03_TopicOrder.j2 kq Sji4 Sji7 Sji10 x63_38 = some r) ∧ Aside0 (kq ≤ kj25) ∧ Aside0 (Below w.heap.size w wc))
                          case first =>
                            have H := HC39.out
                            clear HC39
                            replace H := Option.bind_eq_some_iff.mp H
                            obtain ⟨t243, A400, H⟩ := H
                            replace H : (if t243 = true then ((topic_Match.f Sji7 Sji10).bind fun t244 => (if t244 = true then ((topic_Meet.f Sji4 Sji7).bind fun t245 => (rivuletlaw03_TopicOrder.j2 kj25 Sji4 Sji7 Sji10 (!t245))) else (rivuletlaw03_TopicOrder.j2 kj25 Sji4 Sji7 Sji10 false))) else (rivuletlaw03_TopicOrder.j2 kj25 Sji4 Sji7 Sji10 false)) = some r := H
                            have A40 := Aside0.mk A400
                            clear A400
                            by_cases c41 : t243 = true
                            · subst c41
                              have H1 : ((topic_Match.f Sji7 Sji10).bind fun t244 => (if t244 = true then ((topic_Meet.f Sji4 Sji7).bind fun t245 => (rivuletlaw03_TopicOrder.j2 kj25 Sji4 Sji7 Sji10 (!t245))) else (rivuletlaw03_TopicOrder.j2 kj25 Sji4 Sji7 Sji10 false))) = some r := by rw [if_pos rfl] at H; exact H
                              clear H
                              have H := H1
                              clear H1
                              replace H := Option.bind_eq_some_iff.mp H
                              obtain ⟨t244, A420, H⟩ := H
                              replace H : (if t244 = true then ((topic_Meet.f Sji4 Sji7).bind fun t245 => (rivuletlaw03_TopicOrder.j2 kj25 Sji4 Sji7 Sji10 (!t245))) else (rivuletlaw03_TopicOrder.j2 kj25 Sji4 Sji7 Sji10 false)) = some r := H
                              have A42 := Aside0.mk A420
                              clear A420
                              by_cases c43 : t244 = true
                              · subst c43
                                have H1 : ((topic_Meet.f Sji4 Sji7).bind fun t245 => (rivuletlaw03_TopicOrder.j2 kj25 Sji4 Sji7 Sji10 (!t245))) = some r := by rw [if_pos rfl] at H; exact H
                                clear H
                                have H := H1
                                clear H1
                                replace H := Option.bind_eq_some_iff.mp H
                                obtain ⟨t245, A440, H⟩ := H
                                replace H : (rivuletlaw03_TopicOrder.j2 kj25 Sji4 Sji7 Sji10 (!t245)) = some r := H
                                have A44 := Aside0.mk A440
                                clear A440
                                have H' := Aside0.mk H
                                clear H
                                go_wp2_with (first | ((with_reducible refine gate_callee (f := 21) rfl ?_); refine goesL_ (some 52) rfl rfl Tryd.func21 (by kernel_rfl) rfl #[.string Sji4, .string Sji10] rfl (by (try simp only [List.map_toArray, List.map_cons, List.map_nil]); first | done | (simp only [hji10, hji4]; rfl) | rfl | (simp only [List.length_drop, List.length_take]; rfl)) ?_; (with_reducible refine (topic_Match.calls Sji4 Sji10 true _ A40.out).mono ?_); rintro e w45 ⟨rfl, hb⟩; refine ⟨_, rfl, ?_⟩; have n0_ := Aside0.mk (below_step (by repeat (first | (with_reducible first | exact HB.out | apply below_alloc | apply pw_below_drewN | apply below_drew1) | exact HB.out)) hb); clear HB; have HB := n0_; clear n0_; (try clear hb); (try clear hb2); (try clear hk); (try clear hi)) | (go_at_call 21; (with_reducible refine (topic_Match.calls Sji7 Sji10 true _ A42.out).mono ?_); rintro e w46 ⟨rfl, hb⟩; have n0_ := Aside0.mk (below_step (by repeat (first | (with_reducible first | exact HB.out | apply below_alloc | apply pw_below_drewN | apply below_drew1) | exact HB.out)) hb); clear HB; have HB := n0_; clear n0_; (try clear hb); (try clear hb2); (try clear hk); (try clear hi)) | (go_at_call 25; (with_reducible refine (topic_Meet.calls Sji4 Sji7 t245 _ A44.out).mono ?_); rintro e w47 ⟨rfl, hb⟩; have n0_ := Aside0.mk (below_step (by repeat (first | (with_reducible first | exact HB.out | apply below_alloc | apply pw_below_drewN | apply below_drew1) | exact HB.out)) hb); clear HB; have HB := n0_; clear n0_; (try clear hb); (try clear hb2); (try clear hk); (try clear hi)))
                                go_meet
                                case rel => exact ⟨_, (!t245), (by first | rfl | (simp; done) | (simp [*]; done)), H', ⟨by have := HJ12.out; have := HJ25.out; first | omega | exact Nat.le_refl _⟩, ⟨by repeat (first | (with_reducible first | exact HB.out | apply below_alloc | apply pw_below_drewN | apply below_drew1) | exact HB.out)⟩⟩
                              · replace c43 := Bool.eq_false_iff.mpr c43
                                subst c43
                                have H1 : (rivuletlaw03_TopicOrder.j2 kj25 Sji4 Sji7 Sji10 false) = some r := by rw [if_neg (show ¬ (false = true) by decide)] at H; exact H
                                clear H
                                have H := H1
                                clear H1
                                have H' := Aside0.mk H
                                clear H
                                go_wp2_with (first | ((with_reducible refine gate_callee (f := 21) rfl ?_); refine goesL_ (some 52) rfl rfl Tryd.func21 (by kernel_rfl) rfl #[.string Sji4, .string Sji10] rfl (by (try simp only [List.map_toArray, List.map_cons, List.map_nil]); first | done | (simp only [hji10, hji4]; rfl) | rfl | (simp only [List.length_drop, List.length_take]; rfl)) ?_; (with_reducible refine (topic_Match.calls Sji4 Sji10 true _ A40.out).mono ?_); rintro e w48 ⟨rfl, hb⟩; refine ⟨_, rfl, ?_⟩; have n0_ := Aside0.mk (below_step (by repeat (first | (with_reducible first | exact HB.out | apply below_alloc | apply pw_below_drewN | apply below_drew1) | exact HB.out)) hb); clear HB; have HB := n0_; clear n0_; (try clear hb); (try clear hb2); (try clear hk); (try clear hi)) | (go_at_call 21; (with_reducible refine (topic_Match.calls Sji7 Sji10 false _ A42.out).mono ?_); rintro e w49 ⟨rfl, hb⟩; have n0_ := Aside0.mk (below_step (by repeat (first | (with_reducible first | exact HB.out | apply below_alloc | apply pw_below_drewN | apply below_drew1) | exact HB.out)) hb); clear HB; have HB := n0_; clear n0_; (try clear hb); (try clear hb2); (try clear hk); (try clear hi)))
                                go_meet
                                case rel => exact ⟨_, (false), (by first | rfl | (simp; done) | (simp [*]; done)), H', ⟨by have := HJ12.out; have := HJ25.out; first | omega | exact Nat.le_refl _⟩, ⟨by repeat (first | (with_reducible first | exact HB.out | apply below_alloc | apply pw_below_drewN | apply below_drew1) | exact HB.out)⟩⟩
                            · replace c41 := Bool.eq_false_iff.mpr c41
                              subst c41
                              have H1 : (rivuletlaw03_TopicOrder.j2 kj25 Sji4 Sji7 Sji10 false) = some r := by rw [if_neg (show ¬ (false = true) by decide)] at H; exact H
                              clear H
                              have H := H1
                              clear H1
                              have H' := Aside0.mk H
                              clear H
                              go_wp2_with (first | ((with_reducible refine gate_callee (f := 21) rfl ?_); refine goesL_ (some 52) rfl rfl Tryd.func21 (by kernel_rfl) rfl #[.string Sji4, .string Sji10] rfl (by (try simp only [List.map_toArray, List.map_cons, List.map_nil]); first | done | (simp only [hji10, hji4]; rfl) | rfl | (simp only [List.length_drop, List.length_take]; rfl)) ?_; (with_reducible refine (topic_Match.calls Sji4 Sji10 false _ A40.out).mono ?_); rintro e w50 ⟨rfl, hb⟩; refine ⟨_, rfl, ?_⟩; have n0_ := Aside0.mk (below_step (by repeat (first | (with_reducible first | exact HB.out | apply below_alloc | apply pw_below_drewN | apply below_drew1) | exact HB.out)) hb); clear HB; have HB := n0_; clear n0_; (try clear hb); (try clear hb2); (try clear hk); (try clear hi)))
                              go_meet
                              case rel => exact ⟨_, (false), (by first | rfl | (simp; done) | (simp [*]; done)), H', ⟨by have := HJ12.out; have := HJ25.out; first | omega | exact Nat.le_refl _⟩, ⟨by repeat (first | (with_reducible first | exact HB.out | apply below_alloc | apply pw_below_drewN | apply below_drew1) | exact HB.out)⟩⟩
                          case rest =>
                            clear HC39
                            try clear c1
                            try clear c2
                            try clear p2
                            try clear c3
                            try clear c4
                            try clear c5
                            try clear c5b0
                            try clear c5b1
                            try clear c6
                            try clear c6b0
                            try clear c6b1
                            try clear c8
                            try clear c8b0
                            try clear c8b1
                            try clear c9
                            try clear c9b0
                            try clear c9b1
                            try clear c11
                            try clear c11b0
                            try clear c11b1
                            try clear c12
                            try clear c12b0
                            try clear c12b1
                            try clear c13
                            try clear c15
                            try clear c17
                            try clear c21
                            try clear c23
                            try clear c25
                            try clear c28
                            try clear c30
                            try clear c38
                            try clear c41
                            try clear c43
                            try clear p2
                            obtain ⟨kq, x63_38, rfl, HA, HJ38, HB⟩ := hcut
                            cases kq with
                            | zero => exact absurd HA.out (by simp [rivuletlaw03_TopicOrder.j2])
                            | succ kj38 =>
                              have H := HA.out
                              clear HA
                              simp only [rivuletlaw03_TopicOrder.j2] at H
                              by_cases c51 : x63_38 = true
                              · subst c51
                                have H1 : (some false) = some r := by rw [if_pos rfl] at H; exact H
                                clear H
                                have H := H1
                                clear H1
                                obtain rfl := Option.some.inj H
                                go_wp2
                                go_ret
                                exact ⟨by first | rfl | (simp [errW_none, errW_some] <;> rfl) | (simp only [← hji4, ← hji7, ← hji10]; first | rfl | (simp [errW_none, errW_some] <;> rfl)) | (simp [*, errW_none, errW_some] <;> rfl), by repeat (first | (with_reducible first | exact HB.out | apply below_alloc | apply pw_below_drewN | apply below_drew1) | exact HB.out)⟩
                              · replace c51 := Bool.eq_false_iff.mpr c51
                                subst c51
                                have H1 : ((topic_Covers.f Sji4 Sji7).bind fun t246 => (if t246 = true then ((topic_Meet.f Sji4 Sji7).bind fun t247 => (if t247 = true then ((topic_Meet.f Sji7 Sji4).bind fun t248 => (if (t247 == t248) = true then ((topic_Covers.f Sji4 Sji7).bind fun t249 => (if t249 = true then ((topic_Match.f Sji7 Sji10).bind fun t250 => (if t250 = true then ((topic_Match.f Sji4 Sji10).bind fun t251 => (if t251 = true then ((rivuletlaw03_fixed.f).bind fun t252 => (some t252)) else (some false))) else ((rivuletlaw03_fixed.f).bind fun t253 => (some t253)))) else ((rivuletlaw03_fixed.f).bind fun t254 => (some t254)))) else (some false))) else (some false))) else ((topic_Meet.f Sji4 Sji7).bind fun t255 => ((topic_Meet.f Sji7 Sji4).bind fun t256 => (if (t255 == t256) = true then ((topic_Covers.f Sji4 Sji7).bind fun t257 => (if t257 = true then ((topic_Match.f Sji7 Sji10).bind fun t258 => (if t258 = true then ((topic_Match.f Sji4 Sji10).bind fun t259 => (if t259 = true then ((rivuletlaw03_fixed.f).bind fun t260 => (some t260)) else (some false))) else ((rivuletlaw03_fixed.f).bind fun t261 => (some t261)))) else ((rivuletlaw03_fixed.f).bind fun t262 => (some t262)))) else (some false)))))) = some r := by rw [if_neg (show ¬ (false = true) by decide)] at H; exact H
                                clear H
                                have H := H1
                                clear H1
                                replace H := Option.bind_eq_some_iff.mp H
                                obtain ⟨t246, A520, H⟩ := H
                                replace H : (if t246 = true then ((topic_Meet.f Sji4 Sji7).bind fun t247 => (if t247 = true then ((topic_Meet.f Sji7 Sji4).bind fun t248 => (if (t247 == t248) = true then ((topic_Covers.f Sji4 Sji7).bind fun t249 => (if t249 = true then ((topic_Match.f Sji7 Sji10).bind fun t250 => (if t250 = true then ((topic_Match.f Sji4 Sji10).bind fun t251 => (if t251 = true then ((rivuletlaw03_fixed.f).bind fun t252 => (some t252)) else (some false))) else ((rivuletlaw03_fixed.f).bind fun t253 => (some t253)))) else ((rivuletlaw03_fixed.f).bind fun t254 => (some t254)))) else (some false))) else (some false))) else ((topic_Meet.f Sji4 Sji7).bind fun t255 => ((topic_Meet.f Sji7 Sji4).bind fun t256 => (if (t255 == t256) = true then ((topic_Covers.f Sji4 Sji7).bind fun t257 => (if t257 = true then ((topic_Match.f Sji7 Sji10).bind fun t258 => (if t258 = true then ((topic_Match.f Sji4 Sji10).bind fun t259 => (if t259 = true then ((rivuletlaw03_fixed.f).bind fun t260 => (some t260)) else (some false))) else ((rivuletlaw03_fixed.f).bind fun t261 => (some t261)))) else ((rivuletlaw03_fixed.f).bind fun t262 => (some t262)))) else (some false))))) = some r := H
                                have A52 := Aside0.mk A520
                                clear A520
                                by_cases c53 : t246 = true
                                · subst c53
                                  have H1 : ((topic_Meet.f Sji4 Sji7).bind fun t247 => (if t247 = true then ((topic_Meet.f Sji7 Sji4).bind fun t248 => (if (t247 == t248) = true then ((topic_Covers.f Sji4 Sji7).bind fun t249 => (if t249 = true then ((topic_Match.f Sji7 Sji10).bind fun t250 => (if t250 = true then ((topic_Match.f Sji4 Sji10).bind fun t251 => (if t251 = true then ((rivuletlaw03_fixed.f).bind fun t252 => (some t252)) else (some false))) else ((rivuletlaw03_fixed.f).bind fun t253 => (some t253)))) else ((rivuletlaw03_fixed.f).bind fun t254 => (some t254)))) else (some false))) else (some false))) = some r := by rw [if_pos rfl] at H; exact H
                                  clear H
                                  have H := H1
                                  clear H1
                                  replace H := Option.bind_eq_some_iff.mp H
                                  obtain ⟨t247, A540, H⟩ := H
                                  replace H : (if t247 = true then ((topic_Meet.f Sji7 Sji4).bind fun t248 => (if (t247 == t248) = true then ((topic_Covers.f Sji4 Sji7).bind fun t249 => (if t249 = true then ((topic_Match.f Sji7 Sji10).bind fun t250 => (if t250 = true then ((topic_Match.f Sji4 Sji10).bind fun t251 => (if t251 = true then ((rivuletlaw03_fixed.f).bind fun t252 => (some t252)) else (some false))) else ((rivuletlaw03_fixed.f).bind fun t253 => (some t253)))) else ((rivuletlaw03_fixed.f).bind fun t254 => (some t254)))) else (some false))) else (some false)) = some r := H
                                  have A54 := Aside0.mk A540
                                  clear A540
                                  by_cases c55 : t247 = true
                                  · subst c55
                                    have H1 : ((topic_Meet.f Sji7 Sji4).bind fun t248 => (if (true == t248) = true then ((topic_Covers.f Sji4 Sji7).bind fun t249 => (if t249 = true then ((topic_Match.f Sji7 Sji10).bind fun t250 => (if t250 = true then ((topic_Match.f Sji4 Sji10).bind fun t251 => (if t251 = true then ((rivuletlaw03_fixed.f).bind fun t252 => (some t252)) else (some false))) else ((rivuletlaw03_fixed.f).bind fun t253 => (some t253)))) else ((rivuletlaw03_fixed.f).bind fun t254 => (some t254)))) else (some false))) = some r := by rw [if_pos rfl] at H; exact H
                                    clear H
                                    have H := H1
                                    clear H1
                                    replace H := Option.bind_eq_some_iff.mp H
                                    obtain ⟨t248, A560, H⟩ := H
                                    replace H : (if (true == t248) = true then ((topic_Covers.f Sji4 Sji7).bind fun t249 => (if t249 = true then ((topic_Match.f Sji7 Sji10).bind fun t250 => (if t250 = true then ((topic_Match.f Sji4 Sji10).bind fun t251 => (if t251 = true then ((rivuletlaw03_fixed.f).bind fun t252 => (some t252)) else (some false))) else ((rivuletlaw03_fixed.f).bind fun t253 => (some t253)))) else ((rivuletlaw03_fixed.f).bind fun t254 => (some t254)))) else (some false)) = some r := H
                                    have A56 := Aside0.mk A560
                                    clear A560
                                    by_cases c57 : (true == t248) = true
                                    · rw [if_pos c57] at H
                                      have c57b0 : (true == t248) = true := c57
                                      (try (have c57b1 : decide (true = t248) = true := by simpa using c57))
                                      (try (have c57b2 : (true == t248) = true := by simpa using c57))
                                      clear c57
                                      replace H := Option.bind_eq_some_iff.mp H
                                      obtain ⟨t249, A580, H⟩ := H
                                      replace H : (if t249 = true then ((topic_Match.f Sji7 Sji10).bind fun t250 => (if t250 = true then ((topic_Match.f Sji4 Sji10).bind fun t251 => (if t251 = true then ((rivuletlaw03_fixed.f).bind fun t252 => (some t252)) else (some false))) else ((rivuletlaw03_fixed.f).bind fun t253 => (some t253)))) else ((rivuletlaw03_fixed.f).bind fun t254 => (some t254))) = some r := H
                                      have A58 := Aside0.mk A580
                                      clear A580
                                      by_cases c59 : t249 = true
                                      · subst c59
                                        have H1 : ((topic_Match.f Sji7 Sji10).bind fun t250 => (if t250 = true then ((topic_Match.f Sji4 Sji10).bind fun t251 => (if t251 = true then ((rivuletlaw03_fixed.f).bind fun t252 => (some t252)) else (some false))) else ((rivuletlaw03_fixed.f).bind fun t253 => (some t253)))) = some r := by rw [if_pos rfl] at H; exact H
                                        clear H
                                        have H := H1
                                        clear H1
                                        replace H := Option.bind_eq_some_iff.mp H
                                        obtain ⟨t250, A600, H⟩ := H
                                        replace H : (if t250 = true then ((topic_Match.f Sji4 Sji10).bind fun t251 => (if t251 = true then ((rivuletlaw03_fixed.f).bind fun t252 => (some t252)) else (some false))) else ((rivuletlaw03_fixed.f).bind fun t253 => (some t253))) = some r := H
                                        have A60 := Aside0.mk A600
                                        clear A600
                                        by_cases c61 : t250 = true
                                        · subst c61
                                          have H1 : ((topic_Match.f Sji4 Sji10).bind fun t251 => (if t251 = true then ((rivuletlaw03_fixed.f).bind fun t252 => (some t252)) else (some false))) = some r := by rw [if_pos rfl] at H; exact H
                                          clear H
                                          have H := H1
                                          clear H1
                                          replace H := Option.bind_eq_some_iff.mp H
                                          obtain ⟨t251, A620, H⟩ := H
                                          replace H : (if t251 = true then ((rivuletlaw03_fixed.f).bind fun t252 => (some t252)) else (some false)) = some r := H
                                          have A62 := Aside0.mk A620
                                          clear A620
                                          by_cases c63 : t251 = true
                                          · subst c63
                                            have H1 : ((rivuletlaw03_fixed.f).bind fun t252 => (some t252)) = some r := by rw [if_pos rfl] at H; exact H
                                            clear H
                                            have H := H1
                                            clear H1
                                            replace H := Option.bind_eq_some_iff.mp H
                                            obtain ⟨t252, A640, H⟩ := H
                                            replace H : (some t252) = some r := H
                                            have A64 := Aside0.mk A640
                                            clear A640
                                            obtain rfl := Option.some.inj H
                                            go_wp2_with (first | ((with_reducible refine gate_callee (f := 23) rfl ?_); refine goesL_ (some 66) rfl rfl Tryd.func23 (by kernel_rfl) rfl #[.string Sji4, .string Sji7] rfl (by (try simp only [List.map_toArray, List.map_cons, List.map_nil]); first | done | (simp only [hji4, hji7]; rfl) | rfl | (simp only [List.length_drop, List.length_take]; rfl)) ?_; (with_reducible refine (topic_Covers.calls Sji4 Sji7 true _ A52.out).mono ?_); rintro e w65 ⟨rfl, hb⟩; refine ⟨_, rfl, ?_⟩; have n0_ := Aside0.mk (below_step (by repeat (first | (with_reducible first | exact HB.out | apply below_alloc | apply pw_below_drewN | apply below_drew1) | exact HB.out)) hb); clear HB; have HB := n0_; clear n0_; (try clear hb); (try clear hb2); (try clear hk); (try clear hi)) | (go_at_call 25; (with_reducible refine (topic_Meet.calls Sji4 Sji7 true _ A54.out).mono ?_); rintro e w66 ⟨rfl, hb⟩; have n0_ := Aside0.mk (below_step (by repeat (first | (with_reducible first | exact HB.out | apply below_alloc | apply pw_below_drewN | apply below_drew1) | exact HB.out)) hb); clear HB; have HB := n0_; clear n0_; (try clear hb); (try clear hb2); (try clear hk); (try clear hi)) | (go_at_call 25; (with_reducible refine (topic_Meet.calls Sji7 Sji4 t248 _ A56.out).mono ?_); rintro e w67 ⟨rfl, hb⟩; have n0_ := Aside0.mk (below_step (by repeat (first | (with_reducible first | exact HB.out | apply below_alloc | apply pw_below_drewN | apply below_drew1) | exact HB.out)) hb); clear HB; have HB := n0_; clear n0_; (try clear hb); (try clear hb2); (try clear hk); (try clear hi)) | (go_at_call 23; (with_reducible refine (topic_Covers.calls Sji4 Sji7 true _ A58.out).mono ?_); rintro e w68 ⟨rfl, hb⟩; have n0_ := Aside0.mk (below_step (by repeat (first | (with_reducible first | exact HB.out | apply below_alloc | apply pw_below_drewN | apply below_drew1) | exact HB.out)) hb); clear HB; have HB := n0_; clear n0_; (try clear hb); (try clear hb2); (try clear hk); (try clear hi)) | (go_at_call 21; (with_reducible refine (topic_Match.calls Sji7 Sji10 true _ A60.out).mono ?_); rintro e w69 ⟨rfl, hb⟩; have n0_ := Aside0.mk (below_step (by repeat (first | (with_reducible first | exact HB.out | apply below_alloc | apply pw_below_drewN | apply below_drew1) | exact HB.out)) hb); clear HB; have HB := n0_; clear n0_; (try clear hb); (try clear hb2); (try clear hk); (try clear hi)) | (go_at_call 21; (with_reducible refine (topic_Match.calls Sji4 Sji10 true _ A62.out).mono ?_); rintro e w70 ⟨rfl, hb⟩; have n0_ := Aside0.mk (below_step (by repeat (first | (with_reducible first | exact HB.out | apply below_alloc | apply pw_below_drewN | apply below_drew1) | exact HB.out)) hb); clear HB; have HB := n0_; clear n0_; (try clear hb); (try clear hb2); (try clear hk); (try clear hi)) | (go_at_call 20; (with_reducible refine (rivuletlaw03_fixed.calls  t252 _ A64.out).mono ?_); rintro e w71 ⟨rfl, hb⟩; have n0_ := Aside0.mk (below_step (by repeat (first | (with_reducible first | exact HB.out | apply below_alloc | apply pw_below_drewN | apply below_drew1) | exact HB.out)) hb); clear HB; have HB := n0_; clear n0_; (try clear hb); (try clear hb2); (try clear hk); (try clear hi)))
                                            go_ret
                                            exact ⟨by first | rfl | (simp [errW_none, errW_some] <;> rfl) | (simp only [← hji4, ← hji7, ← hji10]; first | rfl | (simp [errW_none, errW_some] <;> rfl)) | (simp [*, errW_none, errW_some] <;> rfl), by repeat (first | (with_reducible first | exact HB.out | apply below_alloc | apply pw_below_drewN | apply below_drew1) | exact HB.out)⟩
                                          · replace c63 := Bool.eq_false_iff.mpr c63
                                            subst c63
                                            have H1 : (some false) = some r := by rw [if_neg (show ¬ (false = true) by decide)] at H; exact H
                                            clear H
                                            have H := H1
                                            clear H1
                                            obtain rfl := Option.some.inj H
                                            go_wp2_with (first | ((with_reducible refine gate_callee (f := 23) rfl ?_); refine goesL_ (some 66) rfl rfl Tryd.func23 (by kernel_rfl) rfl #[.string Sji4, .string Sji7] rfl (by (try simp only [List.map_toArray, List.map_cons, List.map_nil]); first | done | (simp only [hji4, hji7]; rfl) | rfl | (simp only [List.length_drop, List.length_take]; rfl)) ?_; (with_reducible refine (topic_Covers.calls Sji4 Sji7 true _ A52.out).mono ?_); rintro e w72 ⟨rfl, hb⟩; refine ⟨_, rfl, ?_⟩; have n0_ := Aside0.mk (below_step (by repeat (first | (with_reducible first | exact HB.out | apply below_alloc | apply pw_below_drewN | apply below_drew1) | exact HB.out)) hb); clear HB; have HB := n0_; clear n0_; (try clear hb); (try clear hb2); (try clear hk); (try clear hi)) | (go_at_call 25; (with_reducible refine (topic_Meet.calls Sji4 Sji7 true _ A54.out).mono ?_); rintro e w73 ⟨rfl, hb⟩; have n0_ := Aside0.mk (below_step (by repeat (first | (with_reducible first | exact HB.out | apply below_alloc | apply pw_below_drewN | apply below_drew1) | exact HB.out)) hb); clear HB; have HB := n0_; clear n0_; (try clear hb); (try clear hb2); (try clear hk); (try clear hi)) | (go_at_call 25; (with_reducible refine (topic_Meet.calls Sji7 Sji4 t248 _ A56.out).mono ?_); rintro e w74 ⟨rfl, hb⟩; have n0_ := Aside0.mk (below_step (by repeat (first | (with_reducible first | exact HB.out | apply below_alloc | apply pw_below_drewN | apply below_drew1) | exact HB.out)) hb); clear HB; have HB := n0_; clear n0_; (try clear hb); (try clear hb2); (try clear hk); (try clear hi)) | (go_at_call 23; (with_reducible refine (topic_Covers.calls Sji4 Sji7 true _ A58.out).mono ?_); rintro e w75 ⟨rfl, hb⟩; have n0_ := Aside0.mk (below_step (by repeat (first | (with_reducible first | exact HB.out | apply below_alloc | apply pw_below_drewN | apply below_drew1) | exact HB.out)) hb); clear HB; have HB := n0_; clear n0_; (try clear hb); (try clear hb2); (try clear hk); (try clear hi)) | (go_at_call 21; (with_reducible refine (topic_Match.calls Sji7 Sji10 true _ A60.out).mono ?_); rintro e w76 ⟨rfl, hb⟩; have n0_ := Aside0.mk (below_step (by repeat (first | (with_reducible first | exact HB.out | apply below_alloc | apply pw_below_drewN | apply below_drew1) | exact HB.out)) hb); clear HB; have HB := n0_; clear n0_; (try clear hb); (try clear hb2); (try clear hk); (try clear hi)) | (go_at_call 21; (with_reducible refine (topic_Match.calls Sji4 Sji10 false _ A62.out).mono ?_); rintro e w77 ⟨rfl, hb⟩; have n0_ := Aside0.mk (below_step (by repeat (first | (with_reducible first | exact HB.out | apply below_alloc | apply pw_below_drewN | apply below_drew1) | exact HB.out)) hb); clear HB; have HB := n0_; clear n0_; (try clear hb); (try clear hb2); (try clear hk); (try clear hi)))
                                            go_ret
                                            exact ⟨by first | rfl | (simp [errW_none, errW_some] <;> rfl) | (simp only [← hji4, ← hji7, ← hji10]; first | rfl | (simp [errW_none, errW_some] <;> rfl)) | (simp [*, errW_none, errW_some] <;> rfl), by repeat (first | (with_reducible first | exact HB.out | apply below_alloc | apply pw_below_drewN | apply below_drew1) | exact HB.out)⟩
                                        · replace c61 := Bool.eq_false_iff.mpr c61
                                          subst c61
                                          have H1 : ((rivuletlaw03_fixed.f).bind fun t253 => (some t253)) = some r := by rw [if_neg (show ¬ (false = true) by decide)] at H; exact H
                                          clear H
                                          have H := H1
                                          clear H1
                                          replace H := Option.bind_eq_some_iff.mp H
                                          obtain ⟨t253, A780, H⟩ := H
                                          replace H : (some t253) = some r := H
                                          have A78 := Aside0.mk A780
                                          clear A780
                                          obtain rfl := Option.some.inj H
                                          go_wp2_with (first | ((with_reducible refine gate_callee (f := 23) rfl ?_); refine goesL_ (some 66) rfl rfl Tryd.func23 (by kernel_rfl) rfl #[.string Sji4, .string Sji7] rfl (by (try simp only [List.map_toArray, List.map_cons, List.map_nil]); first | done | (simp only [hji4, hji7]; rfl) | rfl | (simp only [List.length_drop, List.length_take]; rfl)) ?_; (with_reducible refine (topic_Covers.calls Sji4 Sji7 true _ A52.out).mono ?_); rintro e w79 ⟨rfl, hb⟩; refine ⟨_, rfl, ?_⟩; have n0_ := Aside0.mk (below_step (by repeat (first | (with_reducible first | exact HB.out | apply below_alloc | apply pw_below_drewN | apply below_drew1) | exact HB.out)) hb); clear HB; have HB := n0_; clear n0_; (try clear hb); (try clear hb2); (try clear hk); (try clear hi)) | (go_at_call 25; (with_reducible refine (topic_Meet.calls Sji4 Sji7 true _ A54.out).mono ?_); rintro e w80 ⟨rfl, hb⟩; have n0_ := Aside0.mk (below_step (by repeat (first | (with_reducible first | exact HB.out | apply below_alloc | apply pw_below_drewN | apply below_drew1) | exact HB.out)) hb); clear HB; have HB := n0_; clear n0_; (try clear hb); (try clear hb2); (try clear hk); (try clear hi)) | (go_at_call 25; (with_reducible refine (topic_Meet.calls Sji7 Sji4 t248 _ A56.out).mono ?_); rintro e w81 ⟨rfl, hb⟩; have n0_ := Aside0.mk (below_step (by repeat (first | (with_reducible first | exact HB.out | apply below_alloc | apply pw_below_drewN | apply below_drew1) | exact HB.out)) hb); clear HB; have HB := n0_; clear n0_; (try clear hb); (try clear hb2); (try clear hk); (try clear hi)) | (go_at_call 23; (with_reducible refine (topic_Covers.calls Sji4 Sji7 true _ A58.out).mono ?_); rintro e w82 ⟨rfl, hb⟩; have n0_ := Aside0.mk (below_step (by repeat (first | (with_reducible first | exact HB.out | apply below_alloc | apply pw_below_drewN | apply below_drew1) | exact HB.out)) hb); clear HB; have HB := n0_; clear n0_; (try clear hb); (try clear hb2); (try clear hk); (try clear hi)) | (go_at_call 21; (with_reducible refine (topic_Match.calls Sji7 Sji10 false _ A60.out).mono ?_); rintro e w83 ⟨rfl, hb⟩; have n0_ := Aside0.mk (below_step (by repeat (first | (with_reducible first | exact HB.out | apply below_alloc | apply pw_below_drewN | apply below_drew1) | exact HB.out)) hb); clear HB; have HB := n0_; clear n0_; (try clear hb); (try clear hb2); (try clear hk); (try clear hi)) | (go_at_call 20; (with_reducible refine (rivuletlaw03_fixed.calls  t253 _ A78.out).mono ?_); rintro e w84 ⟨rfl, hb⟩; have n0_ := Aside0.mk (below_step (by repeat (first | (with_reducible first | exact HB.out | apply below_alloc | apply pw_below_drewN | apply below_drew1) | exact HB.out)) hb); clear HB; have HB := n0_; clear n0_; (try clear hb); (try clear hb2); (try clear hk); (try clear hi)))
                                          go_ret
                                          exact ⟨by first | rfl | (simp [errW_none, errW_some] <;> rfl) | (simp only [← hji4, ← hji7, ← hji10]; first | rfl | (simp [errW_none, errW_some] <;> rfl)) | (simp [*, errW_none, errW_some] <;> rfl), by repeat (first | (with_reducible first | exact HB.out | apply below_alloc | apply pw_below_drewN | apply below_drew1) | exact HB.out)⟩
                                      · replace c59 := Bool.eq_false_iff.mpr c59
                                        subst c59
                                        have H1 : ((rivuletlaw03_fixed.f).bind fun t254 => (some t254)) = some r := by rw [if_neg (show ¬ (false = true) by decide)] at H; exact H
                                        clear H
                                        have H := H1
                                        clear H1
                                        replace H := Option.bind_eq_some_iff.mp H
                                        obtain ⟨t254, A850, H⟩ := H
                                        replace H : (some t254) = some r := H
                                        have A85 := Aside0.mk A850
                                        clear A850
                                        obtain rfl := Option.some.inj H
                                        go_wp2_with (first | ((with_reducible refine gate_callee (f := 23) rfl ?_); refine goesL_ (some 66) rfl rfl Tryd.func23 (by kernel_rfl) rfl #[.string Sji4, .string Sji7] rfl (by (try simp only [List.map_toArray, List.map_cons, List.map_nil]); first | done | (simp only [hji4, hji7]; rfl) | rfl | (simp only [List.length_drop, List.length_take]; rfl)) ?_; (with_reducible refine (topic_Covers.calls Sji4 Sji7 true _ A52.out).mono ?_); rintro e w86 ⟨rfl, hb⟩; refine ⟨_, rfl, ?_⟩; have n0_ := Aside0.mk (below_step (by repeat (first | (with_reducible first | exact HB.out | apply below_alloc | apply pw_below_drewN | apply below_drew1) | exact HB.out)) hb); clear HB; have HB := n0_; clear n0_; (try clear hb); (try clear hb2); (try clear hk); (try clear hi)) | (go_at_call 25; (with_reducible refine (topic_Meet.calls Sji4 Sji7 true _ A54.out).mono ?_); rintro e w87 ⟨rfl, hb⟩; have n0_ := Aside0.mk (below_step (by repeat (first | (with_reducible first | exact HB.out | apply below_alloc | apply pw_below_drewN | apply below_drew1) | exact HB.out)) hb); clear HB; have HB := n0_; clear n0_; (try clear hb); (try clear hb2); (try clear hk); (try clear hi)) | (go_at_call 25; (with_reducible refine (topic_Meet.calls Sji7 Sji4 t248 _ A56.out).mono ?_); rintro e w88 ⟨rfl, hb⟩; have n0_ := Aside0.mk (below_step (by repeat (first | (with_reducible first | exact HB.out | apply below_alloc | apply pw_below_drewN | apply below_drew1) | exact HB.out)) hb); clear HB; have HB := n0_; clear n0_; (try clear hb); (try clear hb2); (try clear hk); (try clear hi)) | (go_at_call 23; (with_reducible refine (topic_Covers.calls Sji4 Sji7 false _ A58.out).mono ?_); rintro e w89 ⟨rfl, hb⟩; have n0_ := Aside0.mk (below_step (by repeat (first | (with_reducible first | exact HB.out | apply below_alloc | apply pw_below_drewN | apply below_drew1) | exact HB.out)) hb); clear HB; have HB := n0_; clear n0_; (try clear hb); (try clear hb2); (try clear hk); (try clear hi)) | (go_at_call 20; (with_reducible refine (rivuletlaw03_fixed.calls  t254 _ A85.out).mono ?_); rintro e w90 ⟨rfl, hb⟩; have n0_ := Aside0.mk (below_step (by repeat (first | (with_reducible first | exact HB.out | apply below_alloc | apply pw_below_drewN | apply below_drew1) | exact HB.out)) hb); clear HB; have HB := n0_; clear n0_; (try clear hb); (try clear hb2); (try clear hk); (try clear hi)))
                                        go_ret
                                        exact ⟨by first | rfl | (simp [errW_none, errW_some] <;> rfl) | (simp only [← hji4, ← hji7, ← hji10]; first | rfl | (simp [errW_none, errW_some] <;> rfl)) | (simp [*, errW_none, errW_some] <;> rfl), by repeat (first | (with_reducible first | exact HB.out | apply below_alloc | apply pw_below_drewN | apply below_drew1) | exact HB.out)⟩
                                    · rw [if_neg c57] at H
                                      have c57b0 : (true == t248) = false := by simpa using c57
                                      (try (have c57b1 : decide (true = t248) = false := by simpa using c57))
                                      (try (have c57b2 : (true == t248) = false := by simpa using c57))
                                      (try (have c57b3 : ¬ (true = t248) := by simpa using c57))
                                      clear c57
                                      obtain rfl := Option.some.inj H
                                      go_wp2_with (first | ((with_reducible refine gate_callee (f := 23) rfl ?_); refine goesL_ (some 66) rfl rfl Tryd.func23 (by kernel_rfl) rfl #[.string Sji4, .string Sji7] rfl (by (try simp only [List.map_toArray, List.map_cons, List.map_nil]); first | done | (simp only [hji4, hji7]; rfl) | rfl | (simp only [List.length_drop, List.length_take]; rfl)) ?_; (with_reducible refine (topic_Covers.calls Sji4 Sji7 true _ A52.out).mono ?_); rintro e w91 ⟨rfl, hb⟩; refine ⟨_, rfl, ?_⟩; have n0_ := Aside0.mk (below_step (by repeat (first | (with_reducible first | exact HB.out | apply below_alloc | apply pw_below_drewN | apply below_drew1) | exact HB.out)) hb); clear HB; have HB := n0_; clear n0_; (try clear hb); (try clear hb2); (try clear hk); (try clear hi)) | (go_at_call 25; (with_reducible refine (topic_Meet.calls Sji4 Sji7 true _ A54.out).mono ?_); rintro e w92 ⟨rfl, hb⟩; have n0_ := Aside0.mk (below_step (by repeat (first | (with_reducible first | exact HB.out | apply below_alloc | apply pw_below_drewN | apply below_drew1) | exact HB.out)) hb); clear HB; have HB := n0_; clear n0_; (try clear hb); (try clear hb2); (try clear hk); (try clear hi)) | (go_at_call 25; (with_reducible refine (topic_Meet.calls Sji7 Sji4 t248 _ A56.out).mono ?_); rintro e w93 ⟨rfl, hb⟩; have n0_ := Aside0.mk (below_step (by repeat (first | (with_reducible first | exact HB.out | apply below_alloc | apply pw_below_drewN | apply below_drew1) | exact HB.out)) hb); clear HB; have HB := n0_; clear n0_; (try clear hb); (try clear hb2); (try clear hk); (try clear hi)))
                                      go_ret
                                      exact ⟨by first | rfl | (simp [errW_none, errW_some] <;> rfl) | (simp only [← hji4, ← hji7, ← hji10]; first | rfl | (simp [errW_none, errW_some] <;> rfl)) | (simp [*, errW_none, errW_some] <;> rfl), by repeat (first | (with_reducible first | exact HB.out | apply below_alloc | apply pw_below_drewN | apply below_drew1) | exact HB.out)⟩
                                  · replace c55 := Bool.eq_false_iff.mpr c55
                                    subst c55
                                    have H1 : (some false) = some r := by rw [if_neg (show ¬ (false = true) by decide)] at H; exact H
                                    clear H
                                    have H := H1
                                    clear H1
                                    obtain rfl := Option.some.inj H
                                    go_wp2_with (first | ((with_reducible refine gate_callee (f := 23) rfl ?_); refine goesL_ (some 66) rfl rfl Tryd.func23 (by kernel_rfl) rfl #[.string Sji4, .string Sji7] rfl (by (try simp only [List.map_toArray, List.map_cons, List.map_nil]); first | done | (simp only [hji4, hji7]; rfl) | rfl | (simp only [List.length_drop, List.length_take]; rfl)) ?_; (with_reducible refine (topic_Covers.calls Sji4 Sji7 true _ A52.out).mono ?_); rintro e w94 ⟨rfl, hb⟩; refine ⟨_, rfl, ?_⟩; have n0_ := Aside0.mk (below_step (by repeat (first | (with_reducible first | exact HB.out | apply below_alloc | apply pw_below_drewN | apply below_drew1) | exact HB.out)) hb); clear HB; have HB := n0_; clear n0_; (try clear hb); (try clear hb2); (try clear hk); (try clear hi)) | (go_at_call 25; (with_reducible refine (topic_Meet.calls Sji4 Sji7 false _ A54.out).mono ?_); rintro e w95 ⟨rfl, hb⟩; have n0_ := Aside0.mk (below_step (by repeat (first | (with_reducible first | exact HB.out | apply below_alloc | apply pw_below_drewN | apply below_drew1) | exact HB.out)) hb); clear HB; have HB := n0_; clear n0_; (try clear hb); (try clear hb2); (try clear hk); (try clear hi)))
                                    go_ret
                                    exact ⟨by first | rfl | (simp [errW_none, errW_some] <;> rfl) | (simp only [← hji4, ← hji7, ← hji10]; first | rfl | (simp [errW_none, errW_some] <;> rfl)) | (simp [*, errW_none, errW_some] <;> rfl), by repeat (first | (with_reducible first | exact HB.out | apply below_alloc | apply pw_below_drewN | apply below_drew1) | exact HB.out)⟩
                                · replace c53 := Bool.eq_false_iff.mpr c53
                                  subst c53
                                  have H1 : ((topic_Meet.f Sji4 Sji7).bind fun t255 => ((topic_Meet.f Sji7 Sji4).bind fun t256 => (if (t255 == t256) = true then ((topic_Covers.f Sji4 Sji7).bind fun t257 => (if t257 = true then ((topic_Match.f Sji7 Sji10).bind fun t258 => (if t258 = true then ((topic_Match.f Sji4 Sji10).bind fun t259 => (if t259 = true then ((rivuletlaw03_fixed.f).bind fun t260 => (some t260)) else (some false))) else ((rivuletlaw03_fixed.f).bind fun t261 => (some t261)))) else ((rivuletlaw03_fixed.f).bind fun t262 => (some t262)))) else (some false)))) = some r := by rw [if_neg (show ¬ (false = true) by decide)] at H; exact H
                                  clear H
                                  have H := H1
                                  clear H1
                                  replace H := Option.bind_eq_some_iff.mp H
                                  obtain ⟨t255, A960, H⟩ := H
                                  replace H : ((topic_Meet.f Sji7 Sji4).bind fun t256 => (if (t255 == t256) = true then ((topic_Covers.f Sji4 Sji7).bind fun t257 => (if t257 = true then ((topic_Match.f Sji7 Sji10).bind fun t258 => (if t258 = true then ((topic_Match.f Sji4 Sji10).bind fun t259 => (if t259 = true then ((rivuletlaw03_fixed.f).bind fun t260 => (some t260)) else (some false))) else ((rivuletlaw03_fixed.f).bind fun t261 => (some t261)))) else ((rivuletlaw03_fixed.f).bind fun t262 => (some t262)))) else (some false))) = some r := H
                                  have A96 := Aside0.mk A960
                                  clear A960
                                  replace H := Option.bind_eq_some_iff.mp H
                                  obtain ⟨t256, A970, H⟩ := H
                                  replace H : (if (t255 == t256) = true then ((topic_Covers.f Sji4 Sji7).bind fun t257 => (if t257 = true then ((topic_Match.f Sji7 Sji10).bind fun t258 => (if t258 = true then ((topic_Match.f Sji4 Sji10).bind fun t259 => (if t259 = true then ((rivuletlaw03_fixed.f).bind fun t260 => (some t260)) else (some false))) else ((rivuletlaw03_fixed.f).bind fun t261 => (some t261)))) else ((rivuletlaw03_fixed.f).bind fun t262 => (some t262)))) else (some false)) = some r := H
                                  have A97 := Aside0.mk A970
                                  clear A970
                                  by_cases c98 : (t255 == t256) = true
                                  · rw [if_pos c98] at H
                                    have c98b0 : (t255 == t256) = true := c98
                                    (try (have c98b1 : decide (t255 = t256) = true := by simpa using c98))
                                    (try (have c98b2 : (t255 == t256) = true := by simpa using c98))
                                    clear c98
                                    replace H := Option.bind_eq_some_iff.mp H
                                    obtain ⟨t257, A990, H⟩ := H
                                    replace H : (if t257 = true then ((topic_Match.f Sji7 Sji10).bind fun t258 => (if t258 = true then ((topic_Match.f Sji4 Sji10).bind fun t259 => (if t259 = true then ((rivuletlaw03_fixed.f).bind fun t260 => (some t260)) else (some false))) else ((rivuletlaw03_fixed.f).bind fun t261 => (some t261)))) else ((rivuletlaw03_fixed.f).bind fun t262 => (some t262))) = some r := H
                                    have A99 := Aside0.mk A990
                                    clear A990
                                    by_cases c100 : t257 = true
                                    · subst c100
                                      have H1 : ((topic_Match.f Sji7 Sji10).bind fun t258 => (if t258 = true then ((topic_Match.f Sji4 Sji10).bind fun t259 => (if t259 = true then ((rivuletlaw03_fixed.f).bind fun t260 => (some t260)) else (some false))) else ((rivuletlaw03_fixed.f).bind fun t261 => (some t261)))) = some r := by rw [if_pos rfl] at H; exact H
                                      clear H
                                      have H := H1
                                      clear H1
                                      replace H := Option.bind_eq_some_iff.mp H
                                      obtain ⟨t258, A1010, H⟩ := H
                                      replace H : (if t258 = true then ((topic_Match.f Sji4 Sji10).bind fun t259 => (if t259 = true then ((rivuletlaw03_fixed.f).bind fun t260 => (some t260)) else (some false))) else ((rivuletlaw03_fixed.f).bind fun t261 => (some t261))) = some r := H
                                      have A101 := Aside0.mk A1010
                                      clear A1010
                                      by_cases c102 : t258 = true
                                      · subst c102
                                        have H1 : ((topic_Match.f Sji4 Sji10).bind fun t259 => (if t259 = true then ((rivuletlaw03_fixed.f).bind fun t260 => (some t260)) else (some false))) = some r := by rw [if_pos rfl] at H; exact H
                                        clear H
                                        have H := H1
                                        clear H1
                                        replace H := Option.bind_eq_some_iff.mp H
                                        obtain ⟨t259, A1030, H⟩ := H
                                        replace H : (if t259 = true then ((rivuletlaw03_fixed.f).bind fun t260 => (some t260)) else (some false)) = some r := H
                                        have A103 := Aside0.mk A1030
                                        clear A1030
                                        by_cases c104 : t259 = true
                                        · subst c104
                                          have H1 : ((rivuletlaw03_fixed.f).bind fun t260 => (some t260)) = some r := by rw [if_pos rfl] at H; exact H
                                          clear H
                                          have H := H1
                                          clear H1
                                          replace H := Option.bind_eq_some_iff.mp H
                                          obtain ⟨t260, A1050, H⟩ := H
                                          replace H : (some t260) = some r := H
                                          have A105 := Aside0.mk A1050
                                          clear A1050
                                          obtain rfl := Option.some.inj H
                                          go_wp2_with (first | ((with_reducible refine gate_callee (f := 23) rfl ?_); refine goesL_ (some 66) rfl rfl Tryd.func23 (by kernel_rfl) rfl #[.string Sji4, .string Sji7] rfl (by (try simp only [List.map_toArray, List.map_cons, List.map_nil]); first | done | (simp only [hji4, hji7]; rfl) | rfl | (simp only [List.length_drop, List.length_take]; rfl)) ?_; (with_reducible refine (topic_Covers.calls Sji4 Sji7 false _ A52.out).mono ?_); rintro e w106 ⟨rfl, hb⟩; refine ⟨_, rfl, ?_⟩; have n0_ := Aside0.mk (below_step (by repeat (first | (with_reducible first | exact HB.out | apply below_alloc | apply pw_below_drewN | apply below_drew1) | exact HB.out)) hb); clear HB; have HB := n0_; clear n0_; (try clear hb); (try clear hb2); (try clear hk); (try clear hi)) | (go_at_call 25; (with_reducible refine (topic_Meet.calls Sji4 Sji7 t255 _ A96.out).mono ?_); rintro e w107 ⟨rfl, hb⟩; have n0_ := Aside0.mk (below_step (by repeat (first | (with_reducible first | exact HB.out | apply below_alloc | apply pw_below_drewN | apply below_drew1) | exact HB.out)) hb); clear HB; have HB := n0_; clear n0_; (try clear hb); (try clear hb2); (try clear hk); (try clear hi)) | (go_at_call 25; (with_reducible refine (topic_Meet.calls Sji7 Sji4 t256 _ A97.out).mono ?_); rintro e w108 ⟨rfl, hb⟩; have n0_ := Aside0.mk (below_step (by repeat (first | (with_reducible first | exact HB.out | apply below_alloc | apply pw_below_drewN | apply below_drew1) | exact HB.out)) hb); clear HB; have HB := n0_; clear n0_; (try clear hb); (try clear hb2); (try clear hk); (try clear hi)) | (go_at_call 23; (with_reducible refine (topic_Covers.calls Sji4 Sji7 true _ A99.out).mono ?_); rintro e w109 ⟨rfl, hb⟩; have n0_ := Aside0.mk (below_step (by repeat (first | (with_reducible first | exact HB.out | apply below_alloc | apply pw_below_drewN | apply below_drew1) | exact HB.out)) hb); clear HB; have HB := n0_; clear n0_; (try clear hb); (try clear hb2); (try clear hk); (try clear hi)) | (go_at_call 21; (with_reducible refine (topic_Match.calls Sji7 Sji10 true _ A101.out).mono ?_); rintro e w110 ⟨rfl, hb⟩; have n0_ := Aside0.mk (below_step (by repeat (first | (with_reducible first | exact HB.out | apply below_alloc | apply pw_below_drewN | apply below_drew1) | exact HB.out)) hb); clear HB; have HB := n0_; clear n0_; (try clear hb); (try clear hb2); (try clear hk); (try clear hi)) | (go_at_call 21; (with_reducible refine (topic_Match.calls Sji4 Sji10 true _ A103.out).mono ?_); rintro e w111 ⟨rfl, hb⟩; have n0_ := Aside0.mk (below_step (by repeat (first | (with_reducible first | exact HB.out | apply below_alloc | apply pw_below_drewN | apply below_drew1) | exact HB.out)) hb); clear HB; have HB := n0_; clear n0_; (try clear hb); (try clear hb2); (try clear hk); (try clear hi)) | (go_at_call 20; (with_reducible refine (rivuletlaw03_fixed.calls  t260 _ A105.out).mono ?_); rintro e w112 ⟨rfl, hb⟩; have n0_ := Aside0.mk (below_step (by repeat (first | (with_reducible first | exact HB.out | apply below_alloc | apply pw_below_drewN | apply below_drew1) | exact HB.out)) hb); clear HB; have HB := n0_; clear n0_; (try clear hb); (try clear hb2); (try clear hk); (try clear hi)))
                                          go_ret
                                          exact ⟨by first | rfl | (simp [errW_none, errW_some] <;> rfl) | (simp only [← hji4, ← hji7, ← hji10]; first | rfl | (simp [errW_none, errW_some] <;> rfl)) | (simp [*, errW_none, errW_some] <;> rfl), by repeat (first | (with_reducible first | exact HB.out | apply below_alloc | apply pw_below_drewN | apply below_drew1) | exact HB.out)⟩
                                        · replace c104 := Bool.eq_false_iff.mpr c104
                                          subst c104
                                          have H1 : (some false) = some r := by rw [if_neg (show ¬ (false = true) by decide)] at H; exact H
                                          clear H
                                          have H := H1
                                          clear H1
                                          obtain rfl := Option.some.inj H
                                          go_wp2_with (first | ((with_reducible refine gate_callee (f := 23) rfl ?_); refine goesL_ (some 66) rfl rfl Tryd.func23 (by kernel_rfl) rfl #[.string Sji4, .string Sji7] rfl (by (try simp only [List.map_toArray, List.map_cons, List.map_nil]); first | done | (simp only [hji4, hji7]; rfl) | rfl | (simp only [List.length_drop, List.length_take]; rfl)) ?_; (with_reducible refine (topic_Covers.calls Sji4 Sji7 false _ A52.out).mono ?_); rintro e w113 ⟨rfl, hb⟩; refine ⟨_, rfl, ?_⟩; have n0_ := Aside0.mk (below_step (by repeat (first | (with_reducible first | exact HB.out | apply below_alloc | apply pw_below_drewN | apply below_drew1) | exact HB.out)) hb); clear HB; have HB := n0_; clear n0_; (try clear hb); (try clear hb2); (try clear hk); (try clear hi)) | (go_at_call 25; (with_reducible refine (topic_Meet.calls Sji4 Sji7 t255 _ A96.out).mono ?_); rintro e w114 ⟨rfl, hb⟩; have n0_ := Aside0.mk (below_step (by repeat (first | (with_reducible first | exact HB.out | apply below_alloc | apply pw_below_drewN | apply below_drew1) | exact HB.out)) hb); clear HB; have HB := n0_; clear n0_; (try clear hb); (try clear hb2); (try clear hk); (try clear hi)) | (go_at_call 25; (with_reducible refine (topic_Meet.calls Sji7 Sji4 t256 _ A97.out).mono ?_); rintro e w115 ⟨rfl, hb⟩; have n0_ := Aside0.mk (below_step (by repeat (first | (with_reducible first | exact HB.out | apply below_alloc | apply pw_below_drewN | apply below_drew1) | exact HB.out)) hb); clear HB; have HB := n0_; clear n0_; (try clear hb); (try clear hb2); (try clear hk); (try clear hi)) | (go_at_call 23; (with_reducible refine (topic_Covers.calls Sji4 Sji7 true _ A99.out).mono ?_); rintro e w116 ⟨rfl, hb⟩; have n0_ := Aside0.mk (below_step (by repeat (first | (with_reducible first | exact HB.out | apply below_alloc | apply pw_below_drewN | apply below_drew1) | exact HB.out)) hb); clear HB; have HB := n0_; clear n0_; (try clear hb); (try clear hb2); (try clear hk); (try clear hi)) | (go_at_call 21; (with_reducible refine (topic_Match.calls Sji7 Sji10 true _ A101.out).mono ?_); rintro e w117 ⟨rfl, hb⟩; have n0_ := Aside0.mk (below_step (by repeat (first | (with_reducible first | exact HB.out | apply below_alloc | apply pw_below_drewN | apply below_drew1) | exact HB.out)) hb); clear HB; have HB := n0_; clear n0_; (try clear hb); (try clear hb2); (try clear hk); (try clear hi)) | (go_at_call 21; (with_reducible refine (topic_Match.calls Sji4 Sji10 false _ A103.out).mono ?_); rintro e w118 ⟨rfl, hb⟩; have n0_ := Aside0.mk (below_step (by repeat (first | (with_reducible first | exact HB.out | apply below_alloc | apply pw_below_drewN | apply below_drew1) | exact HB.out)) hb); clear HB; have HB := n0_; clear n0_; (try clear hb); (try clear hb2); (try clear hk); (try clear hi)))
                                          go_ret
                                          exact ⟨by first | rfl | (simp [errW_none, errW_some] <;> rfl) | (simp only [← hji4, ← hji7, ← hji10]; first | rfl | (simp [errW_none, errW_some] <;> rfl)) | (simp [*, errW_none, errW_some] <;> rfl), by repeat (first | (with_reducible first | exact HB.out | apply below_alloc | apply pw_below_drewN | apply below_drew1) | exact HB.out)⟩
                                      · replace c102 := Bool.eq_false_iff.mpr c102
                                        subst c102
                                        have H1 : ((rivuletlaw03_fixed.f).bind fun t261 => (some t261)) = some r := by rw [if_neg (show ¬ (false = true) by decide)] at H; exact H
                                        clear H
                                        have H := H1
                                        clear H1
                                        replace H := Option.bind_eq_some_iff.mp H
                                        obtain ⟨t261, A1190, H⟩ := H
                                        replace H : (some t261) = some r := H
                                        have A119 := Aside0.mk A1190
                                        clear A1190
                                        obtain rfl := Option.some.inj H
                                        go_wp2_with (first | ((with_reducible refine gate_callee (f := 23) rfl ?_); refine goesL_ (some 66) rfl rfl Tryd.func23 (by kernel_rfl) rfl #[.string Sji4, .string Sji7] rfl (by (try simp only [List.map_toArray, List.map_cons, List.map_nil]); first | done | (simp only [hji4, hji7]; rfl) | rfl | (simp only [List.length_drop, List.length_take]; rfl)) ?_; (with_reducible refine (topic_Covers.calls Sji4 Sji7 false _ A52.out).mono ?_); rintro e w120 ⟨rfl, hb⟩; refine ⟨_, rfl, ?_⟩; have n0_ := Aside0.mk (below_step (by repeat (first | (with_reducible first | exact HB.out | apply below_alloc | apply pw_below_drewN | apply below_drew1) | exact HB.out)) hb); clear HB; have HB := n0_; clear n0_; (try clear hb); (try clear hb2); (try clear hk); (try clear hi)) | (go_at_call 25; (with_reducible refine (topic_Meet.calls Sji4 Sji7 t255 _ A96.out).mono ?_); rintro e w121 ⟨rfl, hb⟩; have n0_ := Aside0.mk (below_step (by repeat (first | (with_reducible first | exact HB.out | apply below_alloc | apply pw_below_drewN | apply below_drew1) | exact HB.out)) hb); clear HB; have HB := n0_; clear n0_; (try clear hb); (try clear hb2); (try clear hk); (try clear hi)) | (go_at_call 25; (with_reducible refine (topic_Meet.calls Sji7 Sji4 t256 _ A97.out).mono ?_); rintro e w122 ⟨rfl, hb⟩; have n0_ := Aside0.mk (below_step (by repeat (first | (with_reducible first | exact HB.out | apply below_alloc | apply pw_below_drewN | apply below_drew1) | exact HB.out)) hb); clear HB; have HB := n0_; clear n0_; (try clear hb); (try clear hb2); (try clear hk); (try clear hi)) | (go_at_call 23; (with_reducible refine (topic_Covers.calls Sji4 Sji7 true _ A99.out).mono ?_); rintro e w123 ⟨rfl, hb⟩; have n0_ := Aside0.mk (below_step (by repeat (first | (with_reducible first | exact HB.out | apply below_alloc | apply pw_below_drewN | apply below_drew1) | exact HB.out)) hb); clear HB; have HB := n0_; clear n0_; (try clear hb); (try clear hb2); (try clear hk); (try clear hi)) | (go_at_call 21; (with_reducible refine (topic_Match.calls Sji7 Sji10 false _ A101.out).mono ?_); rintro e w124 ⟨rfl, hb⟩; have n0_ := Aside0.mk (below_step (by repeat (first | (with_reducible first | exact HB.out | apply below_alloc | apply pw_below_drewN | apply below_drew1) | exact HB.out)) hb); clear HB; have HB := n0_; clear n0_; (try clear hb); (try clear hb2); (try clear hk); (try clear hi)) | (go_at_call 20; (with_reducible refine (rivuletlaw03_fixed.calls  t261 _ A119.out).mono ?_); rintro e w125 ⟨rfl, hb⟩; have n0_ := Aside0.mk (below_step (by repeat (first | (with_reducible first | exact HB.out | apply below_alloc | apply pw_below_drewN | apply below_drew1) | exact HB.out)) hb); clear HB; have HB := n0_; clear n0_; (try clear hb); (try clear hb2); (try clear hk); (try clear hi)))
                                        go_ret
                                        exact ⟨by first | rfl | (simp [errW_none, errW_some] <;> rfl) | (simp only [← hji4, ← hji7, ← hji10]; first | rfl | (simp [errW_none, errW_some] <;> rfl)) | (simp [*, errW_none, errW_some] <;> rfl), by repeat (first | (with_reducible first | exact HB.out | apply below_alloc | apply pw_below_drewN | apply below_drew1) | exact HB.out)⟩
                                    · replace c100 := Bool.eq_false_iff.mpr c100
                                      subst c100
                                      have H1 : ((rivuletlaw03_fixed.f).bind fun t262 => (some t262)) = some r := by rw [if_neg (show ¬ (false = true) by decide)] at H; exact H
                                      clear H
                                      have H := H1
                                      clear H1
                                      replace H := Option.bind_eq_some_iff.mp H
                                      obtain ⟨t262, A1260, H⟩ := H
                                      replace H : (some t262) = some r := H
                                      have A126 := Aside0.mk A1260
                                      clear A1260
                                      obtain rfl := Option.some.inj H
                                      go_wp2_with (first | ((with_reducible refine gate_callee (f := 23) rfl ?_); refine goesL_ (some 66) rfl rfl Tryd.func23 (by kernel_rfl) rfl #[.string Sji4, .string Sji7] rfl (by (try simp only [List.map_toArray, List.map_cons, List.map_nil]); first | done | (simp only [hji4, hji7]; rfl) | rfl | (simp only [List.length_drop, List.length_take]; rfl)) ?_; (with_reducible refine (topic_Covers.calls Sji4 Sji7 false _ A52.out).mono ?_); rintro e w127 ⟨rfl, hb⟩; refine ⟨_, rfl, ?_⟩; have n0_ := Aside0.mk (below_step (by repeat (first | (with_reducible first | exact HB.out | apply below_alloc | apply pw_below_drewN | apply below_drew1) | exact HB.out)) hb); clear HB; have HB := n0_; clear n0_; (try clear hb); (try clear hb2); (try clear hk); (try clear hi)) | (go_at_call 25; (with_reducible refine (topic_Meet.calls Sji4 Sji7 t255 _ A96.out).mono ?_); rintro e w128 ⟨rfl, hb⟩; have n0_ := Aside0.mk (below_step (by repeat (first | (with_reducible first | exact HB.out | apply below_alloc | apply pw_below_drewN | apply below_drew1) | exact HB.out)) hb); clear HB; have HB := n0_; clear n0_; (try clear hb); (try clear hb2); (try clear hk); (try clear hi)) | (go_at_call 25; (with_reducible refine (topic_Meet.calls Sji7 Sji4 t256 _ A97.out).mono ?_); rintro e w129 ⟨rfl, hb⟩; have n0_ := Aside0.mk (below_step (by repeat (first | (with_reducible first | exact HB.out | apply below_alloc | apply pw_below_drewN | apply below_drew1) | exact HB.out)) hb); clear HB; have HB := n0_; clear n0_; (try clear hb); (try clear hb2); (try clear hk); (try clear hi)) | (go_at_call 23; (with_reducible refine (topic_Covers.calls Sji4 Sji7 false _ A99.out).mono ?_); rintro e w130 ⟨rfl, hb⟩; have n0_ := Aside0.mk (below_step (by repeat (first | (with_reducible first | exact HB.out | apply below_alloc | apply pw_below_drewN | apply below_drew1) | exact HB.out)) hb); clear HB; have HB := n0_; clear n0_; (try clear hb); (try clear hb2); (try clear hk); (try clear hi)) | (go_at_call 20; (with_reducible refine (rivuletlaw03_fixed.calls  t262 _ A126.out).mono ?_); rintro e w131 ⟨rfl, hb⟩; have n0_ := Aside0.mk (below_step (by repeat (first | (with_reducible first | exact HB.out | apply below_alloc | apply pw_below_drewN | apply below_drew1) | exact HB.out)) hb); clear HB; have HB := n0_; clear n0_; (try clear hb); (try clear hb2); (try clear hk); (try clear hi)))
                                      go_ret
                                      exact ⟨by first | rfl | (simp [errW_none, errW_some] <;> rfl) | (simp only [← hji4, ← hji7, ← hji10]; first | rfl | (simp [errW_none, errW_some] <;> rfl)) | (simp [*, errW_none, errW_some] <;> rfl), by repeat (first | (with_reducible first | exact HB.out | apply below_alloc | apply pw_below_drewN | apply below_drew1) | exact HB.out)⟩
                                  · rw [if_neg c98] at H
                                    have c98b0 : (t255 == t256) = false := by simpa using c98
                                    (try (have c98b1 : decide (t255 = t256) = false := by simpa using c98))
                                    (try (have c98b2 : (t255 == t256) = false := by simpa using c98))
                                    (try (have c98b3 : ¬ (t255 = t256) := by simpa using c98))
                                    clear c98
                                    obtain rfl := Option.some.inj H
                                    go_wp2_with (first | ((with_reducible refine gate_callee (f := 23) rfl ?_); refine goesL_ (some 66) rfl rfl Tryd.func23 (by kernel_rfl) rfl #[.string Sji4, .string Sji7] rfl (by (try simp only [List.map_toArray, List.map_cons, List.map_nil]); first | done | (simp only [hji4, hji7]; rfl) | rfl | (simp only [List.length_drop, List.length_take]; rfl)) ?_; (with_reducible refine (topic_Covers.calls Sji4 Sji7 false _ A52.out).mono ?_); rintro e w132 ⟨rfl, hb⟩; refine ⟨_, rfl, ?_⟩; have n0_ := Aside0.mk (below_step (by repeat (first | (with_reducible first | exact HB.out | apply below_alloc | apply pw_below_drewN | apply below_drew1) | exact HB.out)) hb); clear HB; have HB := n0_; clear n0_; (try clear hb); (try clear hb2); (try clear hk); (try clear hi)) | (go_at_call 25; (with_reducible refine (topic_Meet.calls Sji4 Sji7 t255 _ A96.out).mono ?_); rintro e w133 ⟨rfl, hb⟩; have n0_ := Aside0.mk (below_step (by repeat (first | (with_reducible first | exact HB.out | apply below_alloc | apply pw_below_drewN | apply below_drew1) | exact HB.out)) hb); clear HB; have HB := n0_; clear n0_; (try clear hb); (try clear hb2); (try clear hk); (try clear hi)) | (go_at_call 25; (with_reducible refine (topic_Meet.calls Sji7 Sji4 t256 _ A97.out).mono ?_); rintro e w134 ⟨rfl, hb⟩; have n0_ := Aside0.mk (below_step (by repeat (first | (with_reducible first | exact HB.out | apply below_alloc | apply pw_below_drewN | apply below_drew1) | exact HB.out)) hb); clear HB; have HB := n0_; clear n0_; (try clear hb); (try clear hb2); (try clear hk); (try clear hi)))
                                    go_ret
                                    exact ⟨by first | rfl | (simp [errW_none, errW_some] <;> rfl) | (simp only [← hji4, ← hji7, ← hji10]; first | rfl | (simp [errW_none, errW_some] <;> rfl)) | (simp [*, errW_none, errW_some] <;> rfl), by repeat (first | (with_reducible first | exact HB.out | apply below_alloc | apply pw_below_drewN | apply below_drew1) | exact HB.out)⟩
            · rw [if_neg c12] at H
              exact absurd H (by simp)
          · rw [if_neg c11] at H
            exact absurd H (by simp)
        · rw [if_neg c9] at H
          exact absurd H (by simp)
      · rw [if_neg c8] at H
        exact absurd H (by simp)
    · rw [if_neg c6] at H
      exact absurd H (by simp)
  · rw [if_neg c5] at H
    exact absurd H (by simp)

/-- THE ONE PURE STATEMENT of rivuletlaw03_TopicOrder: yours. -/
def rivuletlaw03_TopicOrder.Pure : Prop := ∀ (a0 : ByteArray) (a1 : ByteArray) (a2 : ByteArray), a0.size ≤ 140737488351232 → a1.size ≤ 140737488351232 → a2.size ≤ 140737488351232 → ∃ k, rivuletlaw03_TopicOrder.f k a0 a1 a2 = some true
theorem rivuletlaw03_TopicOrder.walk (P : rivuletlaw03_TopicOrder.Pure) (a0 : ByteArray) (a1 : ByteArray) (a2 : ByteArray) (w : World) (w0 : a0.size ≤ 140737488351232) (w1 : a1.size ≤ 140737488351232) (w2 : a2.size ≤ 140737488351232) :
    Calls Tryd.prog 6 #[.string a0, .string a1, .string a2] w fun e w' => e = .returned (.bool true) ∧ Below w.heap.size w w' := by
  obtain ⟨k, h⟩ := P a0 a1 a2 w0 w1 w2
  refine (rivuletlaw03_TopicOrder.calls k a0 a1 a2 true w h).mono ?_
  rintro e w' ⟨rfl, hd⟩
  exact ⟨rfl, hd⟩

end Go.Proofs.YtfakimleoihfgaaDoor.Pr
