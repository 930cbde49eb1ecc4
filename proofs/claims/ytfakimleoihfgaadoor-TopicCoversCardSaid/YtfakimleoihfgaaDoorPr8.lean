-- Printed by this session's changed copy of the kit's printer (wip/tools/mkprint.py; some functions are given by hand). Lean checks it.
import Derived.Test.YtfakimleoihfgaaDoorPr0
import Derived.Test.YtfakimleoihfgaaDoorPr1
import Derived.Test.YtfakimleoihfgaaDoorPr7
namespace Go.Proofs.YtfakimleoihfgaaDoor.Pr
open Go.RowKit Go.Proofs.YtfakimleoihfgaaDoorW.PrintWords Go.Proofs.YtfakimleoihfgaaDoorW.PrintLast Go.Proofs.YtfakimleoihfgaaDoorW.PrintMore
attribute [local go_sem] max2_int min2_int max_two min_two max_three min_three max_four min_four   -- for this text's walks alone
set_option linter.unusedVariables false
set_option linter.unusedSimpArgs false

/-! ### rivuletlaw03_TopicCovers: function 5 -/
mutual
def rivuletlaw03_TopicCovers.j0 : Nat → ByteArray → ByteArray → Bool → Option (Bool)
  | 0, _, _, _ => none
  | k + 1, x0, x1, x28 => if x28 = true then ((topic_Covers.f x0 x1).bind fun t222 => (if t222 = true then (some false) else ((topic_Meet.f x0 x1).bind fun t223 => (if t223 = true then (some false) else ((rivuletlaw03_fixed.f).bind fun t224 => (some t224)))))) else ((rivuletref03_Levels.f k x0).bind fun t225 => (rivuletlaw03_TopicCovers.l0 k x0 x1 t225 0))
def rivuletlaw03_TopicCovers.l0 : Nat → ByteArray → ByteArray → List ByteArray → Int → Option (Bool)
  | 0, _, _, _, _ => none
  | k + 1, x0, x1, x5, x6 => if x6 < (x5.length : Int) then (if 0 ≤ x6 then (if (rdOf ByteArray.empty x5 x6).toList = ([122, 122, 95, 57, 45, 122, 122, 95, 57, 45, 122, 122] : List UInt8) then ((rivuletlaw03_fixed.f).bind fun t229 => (some t229)) else (rivuletlaw03_TopicCovers.l0 k x0 x1 x5 (wrap64 (x6 + 1)))) else (none)) else (rivuletlaw03_TopicCovers.l1 k x0 x1 true 1)
def rivuletlaw03_TopicCovers.l1 : Nat → ByteArray → ByteArray → Bool → Int → Option (Bool)
  | 0, _, _, _, _ => none
  | k + 1, x0, x1, x7, x8 => if x8 ≤ 8 then ((rivuletlaw03_fresh.f k x1 x8).bind fun bt232 => (if bt232.2 = true then ((topic_Match.f x1 bt232.1).bind fun t234 => (if t234 = true then ((topic_Right.f bt232.1).bind fun t235 => (if t235 = true then (if x7 = true then ((topic_Match.f x0 bt232.1).bind fun t236 => (rivuletlaw03_TopicCovers.l1 k x0 x1 t236 (wrap64 (x8 + 1)))) else (rivuletlaw03_TopicCovers.l1 k x0 x1 false (wrap64 (x8 + 1)))) else (some false))) else (some false))) else (if x7 = true then (rivuletlaw03_TopicCovers.l1 k x0 x1 true (wrap64 (x8 + 1))) else (rivuletlaw03_TopicCovers.l1 k x0 x1 false (wrap64 (x8 + 1)))))) else ((topic_Covers.f x0 x1).bind fun t230 => (if (t230 == x7) = true then ((rivuletlaw03_fixed.f).bind fun t231 => (some t231)) else (some false)))
end
def rivuletlaw03_TopicCovers.f (k : Nat) (a0 : ByteArray) (a1 : ByteArray) : Option (Bool) := if 0 ≤ (mn (a0.size : Int) 200) then (if (mn (a0.size : Int) 200) ≤ (a0.size : Int) then (if 0 ≤ (mn (a1.size : Int) 200) then (if (mn (a1.size : Int) 200) ≤ (a1.size : Int) then ((topic_Filter.f (a0.extract 0 ((mn (a0.size : Int) 200) : Int).toNat)).bind fun t220 => (if t220 = true then ((topic_Filter.f (a1.extract 0 ((mn (a1.size : Int) 200) : Int).toNat)).bind fun t221 => (rivuletlaw03_TopicCovers.j0 k (a0.extract 0 ((mn (a0.size : Int) 200) : Int).toNat) (a1.extract 0 ((mn (a1.size : Int) 200) : Int).toNat) (!t221))) else (rivuletlaw03_TopicCovers.j0 k (a0.extract 0 ((mn (a0.size : Int) 200) : Int).toNat) (a1.extract 0 ((mn (a1.size : Int) 200) : Int).toNat) true))) else (none)) else (none)) else (none)) else (none)
theorem rivuletlaw03_TopicCovers.mono_l : ∀ k, (∀ y0 y1 y2, LeO (rivuletlaw03_TopicCovers.j0 k y0 y1 y2) (rivuletlaw03_TopicCovers.j0 (k + 1) y0 y1 y2)) ∧ (∀ y0 y1 y2 y3, LeO (rivuletlaw03_TopicCovers.l0 k y0 y1 y2 y3) (rivuletlaw03_TopicCovers.l0 (k + 1) y0 y1 y2 y3)) ∧ (∀ y0 y1 y2 y3, LeO (rivuletlaw03_TopicCovers.l1 k y0 y1 y2 y3) (rivuletlaw03_TopicCovers.l1 (k + 1) y0 y1 y2 y3))
  | 0 => ⟨fun _ _ _ r h => by simp [rivuletlaw03_TopicCovers.j0] at h, fun _ _ _ _ r h => by simp [rivuletlaw03_TopicCovers.l0] at h, fun _ _ _ _ r h => by simp [rivuletlaw03_TopicCovers.l1] at h⟩
  | k + 1 => by
    obtain ⟨ih0, ih1, ih2⟩ := rivuletlaw03_TopicCovers.mono_l k
    refine ⟨?_, ?_, ?_⟩
    · intro y0 y1 y2
      unfold rivuletlaw03_TopicCovers.j0
      repeat' first
      | (with_reducible exact ih0 _ _ _)
      | (with_reducible exact ih1 _ _ _ _)
      | (with_reducible exact ih2 _ _ _ _)
      | (with_reducible exact rivuletlaw03_fresh.mono _ _ _)
      | (with_reducible exact rivuletref03_Levels.mono _ _)
      | (with_reducible exact LeO.refl _)
      | (with_reducible exact LeO.none _)
      | (with_reducible refine LeO.ite ?_ ?_)
      | (with_reducible refine LeO.bind ?_ (fun _ => ?_))
      | exact ih0 _ _ _
      | exact ih1 _ _ _ _
      | exact ih2 _ _ _ _
      | exact rivuletlaw03_fresh.mono _ _ _
      | exact rivuletref03_Levels.mono _ _
      | exact LeO.none _
      | refine LeO.ite ?_ ?_
      | refine LeO.bind ?_ (fun _ => ?_)
    · intro y0 y1 y2 y3
      unfold rivuletlaw03_TopicCovers.l0
      repeat' first
      | (with_reducible exact ih0 _ _ _)
      | (with_reducible exact ih1 _ _ _ _)
      | (with_reducible exact ih2 _ _ _ _)
      | (with_reducible exact rivuletlaw03_fresh.mono _ _ _)
      | (with_reducible exact rivuletref03_Levels.mono _ _)
      | (with_reducible exact LeO.refl _)
      | (with_reducible exact LeO.none _)
      | (with_reducible refine LeO.ite ?_ ?_)
      | (with_reducible refine LeO.bind ?_ (fun _ => ?_))
      | exact ih0 _ _ _
      | exact ih1 _ _ _ _
      | exact ih2 _ _ _ _
      | exact rivuletlaw03_fresh.mono _ _ _
      | exact rivuletref03_Levels.mono _ _
      | exact LeO.none _
      | refine LeO.ite ?_ ?_
      | refine LeO.bind ?_ (fun _ => ?_)
    · intro y0 y1 y2 y3
      unfold rivuletlaw03_TopicCovers.l1
      repeat' first
      | (with_reducible exact ih0 _ _ _)
      | (with_reducible exact ih1 _ _ _ _)
      | (with_reducible exact ih2 _ _ _ _)
      | (with_reducible exact rivuletlaw03_fresh.mono _ _ _)
      | (with_reducible exact rivuletref03_Levels.mono _ _)
      | (with_reducible exact LeO.refl _)
      | (with_reducible exact LeO.none _)
      | (with_reducible refine LeO.ite ?_ ?_)
      | (with_reducible refine LeO.bind ?_ (fun _ => ?_))
      | exact ih0 _ _ _
      | exact ih1 _ _ _ _
      | exact ih2 _ _ _ _
      | exact rivuletlaw03_fresh.mono _ _ _
      | exact rivuletref03_Levels.mono _ _
      | exact LeO.none _
      | refine LeO.ite ?_ ?_
      | refine LeO.bind ?_ (fun _ => ?_)
theorem rivuletlaw03_TopicCovers.mono : ∀ a0 a1 k, LeO (rivuletlaw03_TopicCovers.f k a0 a1) (rivuletlaw03_TopicCovers.f (k + 1) a0 a1) := by
  intro a0 a1 k
  obtain ⟨ih0, ih1, ih2⟩ := rivuletlaw03_TopicCovers.mono_l k
  unfold rivuletlaw03_TopicCovers.f
  repeat' first
      | (with_reducible exact ih0 _ _ _)
      | (with_reducible exact ih1 _ _ _ _)
      | (with_reducible exact ih2 _ _ _ _)
      | (with_reducible exact rivuletlaw03_fresh.mono _ _ _)
      | (with_reducible exact rivuletref03_Levels.mono _ _)
      | (with_reducible exact LeO.refl _)
      | (with_reducible exact LeO.none _)
      | (with_reducible refine LeO.ite ?_ ?_)
      | (with_reducible refine LeO.bind ?_ (fun _ => ?_))
      | exact ih0 _ _ _
      | exact ih1 _ _ _ _
      | exact ih2 _ _ _ _
      | exact rivuletlaw03_fresh.mono _ _ _
      | exact rivuletref03_Levels.mono _ _
      | exact LeO.none _
      | refine LeO.ite ?_ ?_
      | refine LeO.bind ?_ (fun _ => ?_)
set_option maxHeartbeats 8000000 in
set_option maxRecDepth 100000 in
theorem rivuletlaw03_TopicCovers.calls (k : Nat) (a0 : ByteArray) (a1 : ByteArray) (r : Bool) (w : World) (h : rivuletlaw03_TopicCovers.f k a0 a1 = some r) :
    Calls Tryd.prog 5 #[.string a0, .string a1] w fun e w' => e = .returned (.bool r) ∧ Below w.heap.size w w' := by
  have HB := Aside0.mk (Below.refl w.heap.size w)
  have H : (if 0 ≤ (mn (a0.size : Int) 200) then (if (mn (a0.size : Int) 200) ≤ (a0.size : Int) then (if 0 ≤ (mn (a1.size : Int) 200) then (if (mn (a1.size : Int) 200) ≤ (a1.size : Int) then ((topic_Filter.f (a0.extract 0 ((mn (a0.size : Int) 200) : Int).toNat)).bind fun t220 => (if t220 = true then ((topic_Filter.f (a1.extract 0 ((mn (a1.size : Int) 200) : Int).toNat)).bind fun t221 => (rivuletlaw03_TopicCovers.j0 k (a0.extract 0 ((mn (a0.size : Int) 200) : Int).toNat) (a1.extract 0 ((mn (a1.size : Int) 200) : Int).toNat) (!t221))) else (rivuletlaw03_TopicCovers.j0 k (a0.extract 0 ((mn (a0.size : Int) 200) : Int).toNat) (a1.extract 0 ((mn (a1.size : Int) 200) : Int).toNat) true))) else (none)) else (none)) else (none)) else (none)) = some r := h
  clear h
  obtain ⟨ji3, hji3⟩ : ∃ j_ : Int, (mn (a0.size : Int) 200) = j_ := ⟨_, rfl⟩
  replace H : (if 0 ≤ (ji3) then (if (ji3) ≤ (a0.size : Int) then (if 0 ≤ (mn (a1.size : Int) 200) then (if (mn (a1.size : Int) 200) ≤ (a1.size : Int) then ((topic_Filter.f (a0.extract 0 ((ji3) : Int).toNat)).bind fun t220 => (if t220 = true then ((topic_Filter.f (a1.extract 0 ((mn (a1.size : Int) 200) : Int).toNat)).bind fun t221 => (rivuletlaw03_TopicCovers.j0 k (a0.extract 0 ((ji3) : Int).toNat) (a1.extract 0 ((mn (a1.size : Int) 200) : Int).toNat) (!t221))) else (rivuletlaw03_TopicCovers.j0 k (a0.extract 0 ((ji3) : Int).toNat) (a1.extract 0 ((mn (a1.size : Int) 200) : Int).toNat) true))) else (none)) else (none)) else (none)) else (none)) = some r := by first | (rw [hji3] at H; exact H) | (simp only [hji3] at H ⊢; exact H)
  (try (have hji3h : ji3 ≤ 200 := by (rw [← hji3]; unfold mn; (repeat' split) <;> omega)))
  (try (have hji3g : ji3 ≤ 64 := by omega))
  (try (have hji3l : 0 ≤ ji3 := by (rw [← hji3]; unfold mn; (repeat' split) <;> omega)))
  (try (have hji3m : 0 ≤ ji3 := by omega))
  have hji3_ : (if 200 < (a0.size : Int) then 200 else (a0.size : Int)) = ji3 := hji3
  obtain ⟨Sji3, hSji3⟩ : ∃ S_ : ByteArray, a0.extract 0 (ji3 : Int).toNat = S_ := ⟨_, rfl⟩
  simp only [hSji3] at H
  by_cases c4 : 0 ≤ (ji3)
  · rw [if_pos c4] at H
    have c4b0 := eq_true c4
    have c4b1 : decide (0 ≤ (ji3)) = true := decide_eq_true c4
    clear c4
    by_cases c5 : (ji3) ≤ (a0.size : Int)
    · rw [if_pos c5] at H
      have c5b0 := eq_true c5
      have c5b1 : decide ((ji3) ≤ (a0.size : Int)) = true := decide_eq_true c5
      clear c5
      obtain ⟨ji6, hji6⟩ : ∃ j_ : Int, (mn (a1.size : Int) 200) = j_ := ⟨_, rfl⟩
      replace H : (if 0 ≤ (ji6) then (if (ji6) ≤ (a1.size : Int) then ((topic_Filter.f Sji3).bind fun t220 => (if t220 = true then ((topic_Filter.f (a1.extract 0 ((ji6) : Int).toNat)).bind fun t221 => (rivuletlaw03_TopicCovers.j0 k Sji3 (a1.extract 0 ((ji6) : Int).toNat) (!t221))) else (rivuletlaw03_TopicCovers.j0 k Sji3 (a1.extract 0 ((ji6) : Int).toNat) true))) else (none)) else (none)) = some r := by first | (rw [hji6] at H; exact H) | (simp only [hji6] at H ⊢; exact H)
      (try (have hji6h : ji6 ≤ 200 := by (rw [← hji6]; unfold mn; (repeat' split) <;> omega)))
      (try (have hji6g : ji6 ≤ 64 := by omega))
      (try (have hji6l : 0 ≤ ji6 := by (rw [← hji6]; unfold mn; (repeat' split) <;> omega)))
      (try (have hji6m : 0 ≤ ji6 := by omega))
      have hji6_ : (if 200 < (a1.size : Int) then 200 else (a1.size : Int)) = ji6 := hji6
      obtain ⟨Sji6, hSji6⟩ : ∃ S_ : ByteArray, a1.extract 0 (ji6 : Int).toNat = S_ := ⟨_, rfl⟩
      simp only [hSji6] at H
      by_cases c7 : 0 ≤ (ji6)
      · rw [if_pos c7] at H
        have c7b0 := eq_true c7
        have c7b1 : decide (0 ≤ (ji6)) = true := decide_eq_true c7
        clear c7
        by_cases c8 : (ji6) ≤ (a1.size : Int)
        · rw [if_pos c8] at H
          have c8b0 := eq_true c8
          have c8b1 : decide ((ji6) ≤ (a1.size : Int)) = true := decide_eq_true c8
          clear c8
          have HC9 := Aside0.mk H
          clear H
          go_enter Tryd.func5, Tryd.ntmps5
          go_upto_region 3 with (fail)
          go_cut [28] (fun v28 wc => ∃ (kq : Nat) (x28_8 : Bool), v28 = .bool x28_8 ∧ Aside0 (rivuletlaw03_TopicCovers.j0 kq Sji3 Sji6 x28_8 = some r) ∧ Aside0 (kq ≤ k) ∧ Aside0 (Below w.heap.size w wc))
          case first =>
            have H := HC9.out
            clear HC9
            replace H := Option.bind_eq_some_iff.mp H
            obtain ⟨t220, A100, H⟩ := H
            replace H : (if t220 = true then ((topic_Filter.f Sji6).bind fun t221 => (rivuletlaw03_TopicCovers.j0 k Sji3 Sji6 (!t221))) else (rivuletlaw03_TopicCovers.j0 k Sji3 Sji6 true)) = some r := H
            have A10 := Aside0.mk A100
            clear A100
            by_cases c11 : t220 = true
            · subst c11
              have H1 : ((topic_Filter.f Sji6).bind fun t221 => (rivuletlaw03_TopicCovers.j0 k Sji3 Sji6 (!t221))) = some r := by rw [if_pos rfl] at H; exact H
              clear H
              have H := H1
              clear H1
              replace H := Option.bind_eq_some_iff.mp H
              obtain ⟨t221, A120, H⟩ := H
              replace H : (rivuletlaw03_TopicCovers.j0 k Sji3 Sji6 (!t221)) = some r := H
              have A12 := Aside0.mk A120
              clear A120
              have H' := Aside0.mk H
              clear H
              go_wp2_with (first | ((with_reducible refine gate_callee (f := 13) rfl ?_); refine goesL_ (some 22) rfl rfl Tryd.func13 (by kernel_rfl) rfl #[.string Sji3] rfl (by (try simp only [List.map_toArray, List.map_cons, List.map_nil]); first | done | (simp only [hji3]; rfl) | rfl | (simp only [List.length_drop, List.length_take]; rfl)) ?_; (with_reducible refine (topic_Filter.calls Sji3 true _ A10.out).mono ?_); rintro e w13 ⟨rfl, hb⟩; refine ⟨_, rfl, ?_⟩; have n0_ := Aside0.mk (below_step (by repeat (first | (with_reducible first | exact HB.out | apply below_alloc | apply pw_below_drewN | apply below_drew1) | exact HB.out)) hb); clear HB; have HB := n0_; clear n0_; (try clear hb); (try clear hb2); (try clear hk); (try clear hi)) | (go_at_call 13; (with_reducible refine (topic_Filter.calls Sji6 t221 _ A12.out).mono ?_); rintro e w14 ⟨rfl, hb⟩; have n0_ := Aside0.mk (below_step (by repeat (first | (with_reducible first | exact HB.out | apply below_alloc | apply pw_below_drewN | apply below_drew1) | exact HB.out)) hb); clear HB; have HB := n0_; clear n0_; (try clear hb); (try clear hb2); (try clear hk); (try clear hi)))
              go_meet
              case rel => exact ⟨_, (!t221), (by first | rfl | (simp; done) | (simp [*]; done)), H', ⟨by first | omega | exact Nat.le_refl _⟩, ⟨by repeat (first | (with_reducible first | exact HB.out | apply below_alloc | apply pw_below_drewN | apply below_drew1) | exact HB.out)⟩⟩
            · replace c11 := Bool.eq_false_iff.mpr c11
              subst c11
              have H1 : (rivuletlaw03_TopicCovers.j0 k Sji3 Sji6 true) = some r := by rw [if_neg (show ¬ (false = true) by decide)] at H; exact H
              clear H
              have H := H1
              clear H1
              have H' := Aside0.mk H
              clear H
              go_wp2_with (first | ((with_reducible refine gate_callee (f := 13) rfl ?_); refine goesL_ (some 22) rfl rfl Tryd.func13 (by kernel_rfl) rfl #[.string Sji3] rfl (by (try simp only [List.map_toArray, List.map_cons, List.map_nil]); first | done | (simp only [hji3]; rfl) | rfl | (simp only [List.length_drop, List.length_take]; rfl)) ?_; (with_reducible refine (topic_Filter.calls Sji3 false _ A10.out).mono ?_); rintro e w15 ⟨rfl, hb⟩; refine ⟨_, rfl, ?_⟩; have n0_ := Aside0.mk (below_step (by repeat (first | (with_reducible first | exact HB.out | apply below_alloc | apply pw_below_drewN | apply below_drew1) | exact HB.out)) hb); clear HB; have HB := n0_; clear n0_; (try clear hb); (try clear hb2); (try clear hk); (try clear hi)))
              go_meet
              case rel => exact ⟨_, (true), (by first | rfl | (simp; done) | (simp [*]; done)), H', ⟨by first | omega | exact Nat.le_refl _⟩, ⟨by repeat (first | (with_reducible first | exact HB.out | apply below_alloc | apply pw_below_drewN | apply below_drew1) | exact HB.out)⟩⟩
          case rest =>
            clear HC9
            try clear c1
            try clear p2
            try clear c4
            try clear c4b0
            try clear c4b1
            try clear c5
            try clear c5b0
            try clear c5b1
            try clear c7
            try clear c7b0
            try clear c7b1
            try clear c8
            try clear c8b0
            try clear c8b1
            try clear c11
            try clear c13
            obtain ⟨kq, x28_8, rfl, HA, HJ8, HB⟩ := hcut
            cases kq with
            | zero => exact absurd HA.out (by simp [rivuletlaw03_TopicCovers.j0])
            | succ kj8 =>
              have H := HA.out
              clear HA
              simp only [rivuletlaw03_TopicCovers.j0] at H
              by_cases c16 : x28_8 = true
              · subst c16
                have H1 : ((topic_Covers.f Sji3 Sji6).bind fun t222 => (if t222 = true then (some false) else ((topic_Meet.f Sji3 Sji6).bind fun t223 => (if t223 = true then (some false) else ((rivuletlaw03_fixed.f).bind fun t224 => (some t224)))))) = some r := by rw [if_pos rfl] at H; exact H
                clear H
                have H := H1
                clear H1
                replace H := Option.bind_eq_some_iff.mp H
                obtain ⟨t222, A170, H⟩ := H
                replace H : (if t222 = true then (some false) else ((topic_Meet.f Sji3 Sji6).bind fun t223 => (if t223 = true then (some false) else ((rivuletlaw03_fixed.f).bind fun t224 => (some t224))))) = some r := H
                have A17 := Aside0.mk A170
                clear A170
                by_cases c18 : t222 = true
                · subst c18
                  have H1 : (some false) = some r := by rw [if_pos rfl] at H; exact H
                  clear H
                  have H := H1
                  clear H1
                  obtain rfl := Option.some.inj H
                  go_wp2_with (first | ((with_reducible refine gate_callee (f := 23) rfl ?_); refine goesL_ (some 31) rfl rfl Tryd.func23 (by kernel_rfl) rfl #[.string Sji3, .string Sji6] rfl (by (try simp only [List.map_toArray, List.map_cons, List.map_nil]); first | done | (simp only [hji3, hji6]; rfl) | rfl | (simp only [List.length_drop, List.length_take]; rfl)) ?_; (with_reducible refine (topic_Covers.calls Sji3 Sji6 true _ A17.out).mono ?_); rintro e w19 ⟨rfl, hb⟩; refine ⟨_, rfl, ?_⟩; have n0_ := Aside0.mk (below_step (by repeat (first | (with_reducible first | exact HB.out | apply below_alloc | apply pw_below_drewN | apply below_drew1) | exact HB.out)) hb); clear HB; have HB := n0_; clear n0_; (try clear hb); (try clear hb2); (try clear hk); (try clear hi)))
                  go_ret
                  exact ⟨by first | rfl | (simp [errW_none, errW_some] <;> rfl) | (simp only [← hji3, ← hji6]; first | rfl | (simp [errW_none, errW_some] <;> rfl)) | (simp [*, errW_none, errW_some] <;> rfl), by repeat (first | (with_reducible first | exact HB.out | apply below_alloc | apply pw_below_drewN | apply below_drew1) | exact HB.out)⟩
                · replace c18 := Bool.eq_false_iff.mpr c18
                  subst c18
                  have H1 : ((topic_Meet.f Sji3 Sji6).bind fun t223 => (if t223 = true then (some false) else ((rivuletlaw03_fixed.f).bind fun t224 => (some t224)))) = some r := by rw [if_neg (show ¬ (false = true) by decide)] at H; exact H
                  clear H
                  have H := H1
                  clear H1
                  replace H := Option.bind_eq_some_iff.mp H
                  obtain ⟨t223, A200, H⟩ := H
                  replace H : (if t223 = true then (some false) else ((rivuletlaw03_fixed.f).bind fun t224 => (some t224))) = some r := H
                  have A20 := Aside0.mk A200
                  clear A200
                  by_cases c21 : t223 = true
                  · subst c21
                    have H1 : (some false) = some r := by rw [if_pos rfl] at H; exact H
                    clear H
                    have H := H1
                    clear H1
                    obtain rfl := Option.some.inj H
                    go_wp2_with (first | ((with_reducible refine gate_callee (f := 23) rfl ?_); refine goesL_ (some 31) rfl rfl Tryd.func23 (by kernel_rfl) rfl #[.string Sji3, .string Sji6] rfl (by (try simp only [List.map_toArray, List.map_cons, List.map_nil]); first | done | (simp only [hji3, hji6]; rfl) | rfl | (simp only [List.length_drop, List.length_take]; rfl)) ?_; (with_reducible refine (topic_Covers.calls Sji3 Sji6 false _ A17.out).mono ?_); rintro e w22 ⟨rfl, hb⟩; refine ⟨_, rfl, ?_⟩; have n0_ := Aside0.mk (below_step (by repeat (first | (with_reducible first | exact HB.out | apply below_alloc | apply pw_below_drewN | apply below_drew1) | exact HB.out)) hb); clear HB; have HB := n0_; clear n0_; (try clear hb); (try clear hb2); (try clear hk); (try clear hi)) | (go_at_call 25; (with_reducible refine (topic_Meet.calls Sji3 Sji6 true _ A20.out).mono ?_); rintro e w23 ⟨rfl, hb⟩; have n0_ := Aside0.mk (below_step (by repeat (first | (with_reducible first | exact HB.out | apply below_alloc | apply pw_below_drewN | apply below_drew1) | exact HB.out)) hb); clear HB; have HB := n0_; clear n0_; (try clear hb); (try clear hb2); (try clear hk); (try clear hi)))
                    go_ret
                    exact ⟨by first | rfl | (simp [errW_none, errW_some] <;> rfl) | (simp only [← hji3, ← hji6]; first | rfl | (simp [errW_none, errW_some] <;> rfl)) | (simp [*, errW_none, errW_some] <;> rfl), by repeat (first | (with_reducible first | exact HB.out | apply below_alloc | apply pw_below_drewN | apply below_drew1) | exact HB.out)⟩
                  · replace c21 := Bool.eq_false_iff.mpr c21
                    subst c21
                    have H1 : ((rivuletlaw03_fixed.f).bind fun t224 => (some t224)) = some r := by rw [if_neg (show ¬ (false = true) by decide)] at H; exact H
                    clear H
                    have H := H1
                    clear H1
                    replace H := Option.bind_eq_some_iff.mp H
                    obtain ⟨t224, A240, H⟩ := H
                    replace H : (some t224) = some r := H
                    have A24 := Aside0.mk A240
                    clear A240
                    obtain rfl := Option.some.inj H
                    go_wp2_with (first | ((with_reducible refine gate_callee (f := 23) rfl ?_); refine goesL_ (some 31) rfl rfl Tryd.func23 (by kernel_rfl) rfl #[.string Sji3, .string Sji6] rfl (by (try simp only [List.map_toArray, List.map_cons, List.map_nil]); first | done | (simp only [hji3, hji6]; rfl) | rfl | (simp only [List.length_drop, List.length_take]; rfl)) ?_; (with_reducible refine (topic_Covers.calls Sji3 Sji6 false _ A17.out).mono ?_); rintro e w25 ⟨rfl, hb⟩; refine ⟨_, rfl, ?_⟩; have n0_ := Aside0.mk (below_step (by repeat (first | (with_reducible first | exact HB.out | apply below_alloc | apply pw_below_drewN | apply below_drew1) | exact HB.out)) hb); clear HB; have HB := n0_; clear n0_; (try clear hb); (try clear hb2); (try clear hk); (try clear hi)) | (go_at_call 25; (with_reducible refine (topic_Meet.calls Sji3 Sji6 false _ A20.out).mono ?_); rintro e w26 ⟨rfl, hb⟩; have n0_ := Aside0.mk (below_step (by repeat (first | (with_reducible first | exact HB.out | apply below_alloc | apply pw_below_drewN | apply below_drew1) | exact HB.out)) hb); clear HB; have HB := n0_; clear n0_; (try clear hb); (try clear hb2); (try clear hk); (try clear hi)) | (go_at_call 20; (with_reducible refine (rivuletlaw03_fixed.calls  t224 _ A24.out).mono ?_); rintro e w27 ⟨rfl, hb⟩; have n0_ := Aside0.mk (below_step (by repeat (first | (with_reducible first | exact HB.out | apply below_alloc | apply pw_below_drewN | apply below_drew1) | exact HB.out)) hb); clear HB; have HB := n0_; clear n0_; (try clear hb); (try clear hb2); (try clear hk); (try clear hi)))
                    go_ret
                    exact ⟨by first | rfl | (simp [errW_none, errW_some] <;> rfl) | (simp only [← hji3, ← hji6]; first | rfl | (simp [errW_none, errW_some] <;> rfl)) | (simp [*, errW_none, errW_some] <;> rfl), by repeat (first | (with_reducible first | exact HB.out | apply below_alloc | apply pw_below_drewN | apply below_drew1) | exact HB.out)⟩
              · replace c16 := Bool.eq_false_iff.mpr c16
                subst c16
                have H1 : ((rivuletref03_Levels.f kj8 Sji3).bind fun t225 => (rivuletlaw03_TopicCovers.l0 kj8 Sji3 Sji6 t225 0)) = some r := by rw [if_neg (show ¬ (false = true) by decide)] at H; exact H
                clear H
                have H := H1
                clear H1
                replace H := Option.bind_eq_some_iff.mp H
                obtain ⟨t225, A280, H⟩ := H
                replace H : (rivuletlaw03_TopicCovers.l0 kj8 Sji3 Sji6 t225 0) = some r := H
                have A28 := Aside0.mk A280
                clear A280
                have H' := Aside0.mk H
                clear H
                go_wp2_with (first | ((with_reducible refine gate_callee (f := 17) rfl ?_); refine goesL_ (some 43) rfl rfl Tryd.func17 (by kernel_rfl) rfl #[.string Sji3] rfl (by (try simp only [List.map_toArray, List.map_cons, List.map_nil]); first | done | (simp only [hji3]; rfl) | rfl | (simp only [List.length_drop, List.length_take]; rfl)) ?_; (with_reducible refine (rivuletref03_Levels.calls kj8 Sji3 t225 _ A28.out).mono ?_); rintro e w29 ⟨v226, rfl, ho0, hb⟩; refine ⟨_, rfl, ?_⟩; have n0_ := Aside0.mk (Kd.R_lower ho0 (below_size (by repeat (first | (with_reducible first | exact HB.out | apply below_alloc | apply pw_below_drewN | apply below_drew1) | exact HB.out)))); have n1_ := Aside0.mk (below_step (by repeat (first | (with_reducible first | exact HB.out | apply below_alloc | apply pw_below_drewN | apply below_drew1) | exact HB.out)) hb); clear HB; have HO227 := n0_; have HB := n1_; clear n0_ n1_; (try clear hb); (try clear hb2); (try clear hk); (try clear hi); (try clear ho0)))
                go_loopg [6] kj8 (fun kq v6 w' => ∃ (x6_2 : Int), v6 = .int .i64 x6_2 ∧ Aside0 (rivuletlaw03_TopicCovers.l0 kq Sji3 Sji6 t225 x6_2 = some r) ∧ Aside0 (kq ≤ kj8) ∧ Aside0 (Kd.R Kd.string 9 w' w.heap.size (fun _ => True) v226 t225) ∧ Aside0 (Below w.heap.size w w'))
                case atStart => exact ⟨(0), (by first | rfl | (simp; done) | (simp [*]; done)), H', ⟨Nat.le_refl _⟩, ⟨by (with_reducible repeat (first | apply Kd.R_alloc | apply Kd.R_drewN | apply Kd.R_drew)); exact HO227.out⟩, ⟨by repeat (first | (with_reducible first | exact HB.out | apply below_alloc | apply pw_below_drewN | apply below_drew1) | exact HB.out)⟩⟩
                case round =>
                  clear H'
                  try clear c1
                  try clear c2
                  try clear p2
                  try clear c4
                  try clear c4b0
                  try clear c4b1
                  try clear c5
                  try clear c5b0
                  try clear c5b1
                  try clear c7
                  try clear c7b0
                  try clear c7b1
                  try clear c8
                  try clear c8b0
                  try clear c8b1
                  try clear c11
                  try clear c13
                  try clear c16
                  try clear c17
                  try clear c18
                  try clear c21
                  try clear c23
                  try clear p2
                  obtain ⟨x6_2, rfl, HA, HK2, HO_5, HB⟩ := hrel
                  cases gk with
                  | zero => exact absurd HA.out (by simp [rivuletlaw03_TopicCovers.l0])
                  | succ k2 =>
                    have H := HA.out
                    clear HA
                    simp only [rivuletlaw03_TopicCovers.l0] at H
                    by_cases c30 : x6_2 < (t225.length : Int)
                    · rw [if_pos c30] at H
                      have c30b0 : decide (x6_2 < (t225.length : Int)) = true := decide_eq_true c30
                      clear c30
                      by_cases c31 : 0 ≤ x6_2
                      · rw [if_pos c31] at H
                        have c31b0 : decide (0 ≤ x6_2) = true := decide_eq_true c31
                        clear c31
                        by_cases c32 : (rdOf ByteArray.empty t225 x6_2).toList = ([122, 122, 95, 57, 45, 122, 122, 95, 57, 45, 122, 122] : List UInt8)
                        · rw [if_pos c32] at H
                          have c32b0 : ((rdOf ByteArray.empty t225 x6_2).toList == ([122, 122, 95, 57, 45, 122, 122, 95, 57, 45, 122, 122] : List UInt8)) = true := beq_iff_eq.mpr c32
                          have c32b1 : ((rdOf ByteArray.empty t225 x6_2).toList != ([122, 122, 95, 57, 45, 122, 122, 95, 57, 45, 122, 122] : List UInt8)) = false := bne_eq_false_iff_eq.mpr c32
                          clear c32
                          replace H := Option.bind_eq_some_iff.mp H
                          obtain ⟨t229, A330, H⟩ := H
                          replace H : (some t229) = some r := H
                          have A33 := Aside0.mk A330
                          clear A330
                          obtain rfl := Option.some.inj H
                          obtain ⟨Ao34, co34, eo34⟩ := Kd.R_slice HO_5.out
                          subst eo34
                          have p228 : 0 ≤ (x6_2 : Int) := of_decide_eq_true (by first | (with_reducible assumption) | assumption)
                          have q228 : x6_2 < (t225.length : Int) := of_decide_eq_true (by first | (with_reducible assumption) | assumption)
                          obtain ⟨ad228, e228, hx228_0⟩ := Kd.at_string (Kd.R_reads' HO_5.out).2.2 x6_2 p228 q228
                          cases e228
                          replace p228 := eq_true p228
                          replace q228 := eq_true q228
                          go_wp2_with (first | ((with_reducible refine gate_callee (f := 20) rfl ?_); refine goesL_ (some 55) rfl rfl Tryd.func20 (by kernel_rfl) rfl #[] rfl (by (try simp only [List.map_toArray, List.map_cons, List.map_nil]); first | done | rfl | (simp only [List.length_drop, List.length_take]; rfl)) ?_; (with_reducible refine (rivuletlaw03_fixed.calls  t229 _ A33.out).mono ?_); rintro e w35 ⟨rfl, hb⟩; refine ⟨_, rfl, ?_⟩; have n0_ := Aside0.mk (Kd.R_below (by (with_reducible repeat (first | apply Kd.R_alloc | apply Kd.R_drewN | apply Kd.R_drew)); exact HO_5.out) hb); have n1_ := Aside0.mk (below_step (by repeat (first | (with_reducible first | exact HB.out | apply below_alloc | apply pw_below_drewN | apply below_drew1) | exact HB.out)) hb); clear HO_5; clear HB; have HO_5 := n0_; have HB := n1_; clear n0_ n1_; (try clear hb); (try clear hb2); (try clear hk); (try clear hi)))
                          go_ret
                          exact ⟨by first | rfl | (simp [errW_none, errW_some] <;> rfl) | (simp only [← hji3, ← hji6]; first | rfl | (simp [errW_none, errW_some] <;> rfl)) | (simp [*, errW_none, errW_some] <;> rfl), by repeat (first | (with_reducible first | exact HB.out | apply below_alloc | apply pw_below_drewN | apply below_drew1) | exact HB.out)⟩
                        · rw [if_neg c32] at H
                          have c32b0 : ((rdOf ByteArray.empty t225 x6_2).toList == ([122, 122, 95, 57, 45, 122, 122, 95, 57, 45, 122, 122] : List UInt8)) = false := beq_eq_false_iff_ne.mpr c32
                          have c32b1 : ((rdOf ByteArray.empty t225 x6_2).toList != ([122, 122, 95, 57, 45, 122, 122, 95, 57, 45, 122, 122] : List UInt8)) = true := bne_iff_ne.mpr c32
                          have H' := Aside0.mk H
                          clear H
                          obtain ⟨Ao36, co36, eo36⟩ := Kd.R_slice HO_5.out
                          subst eo36
                          have p228 : 0 ≤ (x6_2 : Int) := of_decide_eq_true (by first | (with_reducible assumption) | assumption)
                          have q228 : x6_2 < (t225.length : Int) := of_decide_eq_true (by first | (with_reducible assumption) | assumption)
                          obtain ⟨ad228, e228, hx228_0⟩ := Kd.at_string (Kd.R_reads' HO_5.out).2.2 x6_2 p228 q228
                          cases e228
                          replace p228 := eq_true p228
                          replace q228 := eq_true q228
                          go_wp2
                          go_roundg k2
                          case measure => have := HJ8.out; have := HK2.out; omega
                          case rel => exact ⟨(wrap64 (x6_2 + 1)), (by first | rfl | (simp; done) | (simp [*]; done)), H', ⟨by have := HJ8.out; have := HK2.out; omega⟩, ⟨by (with_reducible repeat (first | apply Kd.R_alloc | apply Kd.R_drewN | apply Kd.R_drew)); exact HO_5.out⟩, ⟨by repeat (first | (with_reducible first | exact HB.out | apply below_alloc | apply pw_below_drewN | apply below_drew1) | exact HB.out)⟩⟩
                      · rw [if_neg c31] at H
                        exact absurd H (by simp)
                    · rw [if_neg c30] at H
                      have c30b0 : decide (x6_2 < (t225.length : Int)) = false := decide_eq_false c30
                      clear c30
                      have H' := Aside0.mk H
                      clear H
                      obtain ⟨Ao37, co37, eo37⟩ := Kd.R_slice HO_5.out
                      subst eo37
                      go_wp2
                      go_loopg [7, 8] k2 (fun kq v7 v8 w' => ∃ (x7_3 : Bool) (x8_3 : Int), v7 = .bool x7_3 ∧ v8 = .int .i64 x8_3 ∧ Aside0 (rivuletlaw03_TopicCovers.l1 kq Sji3 Sji6 x7_3 x8_3 = some r) ∧ Aside0 (kq ≤ k2) ∧ Aside0 (Below w.heap.size w w'))
                      case atStart => exact ⟨(true), (1), (by first | rfl | (simp; done) | (simp [*]; done)), (by first | rfl | (simp; done) | (simp [*]; done)), H', ⟨Nat.le_refl _⟩, ⟨by repeat (first | (with_reducible first | exact HB.out | apply below_alloc | apply pw_below_drewN | apply below_drew1) | exact HB.out)⟩⟩
                      case round =>
                        clear H'
                        try clear c1
                        try clear c2
                        try clear p2
                        try clear q2
                        try clear hx2
                        try clear c3
                        try clear c4
                        try clear c4b0
                        try clear c4b1
                        try clear c5
                        try clear c5b0
                        try clear c5b1
                        try clear p6
                        try clear c7
                        try clear c7b0
                        try clear c7b1
                        try clear c8
                        try clear c8b0
                        try clear c8b1
                        try clear c11
                        try clear c13
                        try clear c16
                        try clear c17
                        try clear c18
                        try clear c20
                        try clear c21
                        try clear p22
                        try clear q22
                        try clear hx22
                        try clear c23
                        try clear c30
                        try clear c30b0
                        try clear c31
                        try clear c31b0
                        try clear c32
                        try clear c32b0
                        try clear c32b1
                        try clear hx228_0
                        try clear p2
                        try clear p228
                        try clear q228
                        obtain ⟨x7_3, x8_3, rfl, rfl, HA, HK3, HB⟩ := hrel
                        cases gk with
                        | zero => exact absurd HA.out (by simp [rivuletlaw03_TopicCovers.l1])
                        | succ k3 =>
                          have H := HA.out
                          clear HA
                          simp only [rivuletlaw03_TopicCovers.l1] at H
                          by_cases c38 : x8_3 ≤ 8
                          · rw [if_pos c38] at H
                            have c38b0 : decide (x8_3 ≤ 8) = true := decide_eq_true c38
                            clear c38
                            replace H := Option.bind_eq_some_iff.mp H
                            obtain ⟨⟨t232, t233⟩, A390, H⟩ := H
                            replace H : (if t233 = true then ((topic_Match.f Sji6 t232).bind fun t234 => (if t234 = true then ((topic_Right.f t232).bind fun t235 => (if t235 = true then (if x7_3 = true then ((topic_Match.f Sji3 t232).bind fun t236 => (rivuletlaw03_TopicCovers.l1 k3 Sji3 Sji6 t236 (wrap64 (x8_3 + 1)))) else (rivuletlaw03_TopicCovers.l1 k3 Sji3 Sji6 false (wrap64 (x8_3 + 1)))) else (some false))) else (some false))) else (if x7_3 = true then (rivuletlaw03_TopicCovers.l1 k3 Sji3 Sji6 true (wrap64 (x8_3 + 1))) else (rivuletlaw03_TopicCovers.l1 k3 Sji3 Sji6 false (wrap64 (x8_3 + 1))))) = some r := H
                            have A39 := Aside0.mk A390
                            clear A390
                            by_cases c40 : t233 = true
                            · subst c40
                              have H1 : ((topic_Match.f Sji6 t232).bind fun t234 => (if t234 = true then ((topic_Right.f t232).bind fun t235 => (if t235 = true then (if x7_3 = true then ((topic_Match.f Sji3 t232).bind fun t236 => (rivuletlaw03_TopicCovers.l1 k3 Sji3 Sji6 t236 (wrap64 (x8_3 + 1)))) else (rivuletlaw03_TopicCovers.l1 k3 Sji3 Sji6 false (wrap64 (x8_3 + 1)))) else (some false))) else (some false))) = some r := by rw [if_pos rfl] at H; exact H
                              clear H
                              have H := H1
                              clear H1
                              replace H := Option.bind_eq_some_iff.mp H
                              obtain ⟨t234, A410, H⟩ := H
                              replace H : (if t234 = true then ((topic_Right.f t232).bind fun t235 => (if t235 = true then (if x7_3 = true then ((topic_Match.f Sji3 t232).bind fun t236 => (rivuletlaw03_TopicCovers.l1 k3 Sji3 Sji6 t236 (wrap64 (x8_3 + 1)))) else (rivuletlaw03_TopicCovers.l1 k3 Sji3 Sji6 false (wrap64 (x8_3 + 1)))) else (some false))) else (some false)) = some r := H
                              have A41 := Aside0.mk A410
                              clear A410
                              by_cases c42 : t234 = true
                              · subst c42
                                have H1 : ((topic_Right.f t232).bind fun t235 => (if t235 = true then (if x7_3 = true then ((topic_Match.f Sji3 t232).bind fun t236 => (rivuletlaw03_TopicCovers.l1 k3 Sji3 Sji6 t236 (wrap64 (x8_3 + 1)))) else (rivuletlaw03_TopicCovers.l1 k3 Sji3 Sji6 false (wrap64 (x8_3 + 1)))) else (some false))) = some r := by rw [if_pos rfl] at H; exact H
                                clear H
                                have H := H1
                                clear H1
                                replace H := Option.bind_eq_some_iff.mp H
                                obtain ⟨t235, A430, H⟩ := H
                                replace H : (if t235 = true then (if x7_3 = true then ((topic_Match.f Sji3 t232).bind fun t236 => (rivuletlaw03_TopicCovers.l1 k3 Sji3 Sji6 t236 (wrap64 (x8_3 + 1)))) else (rivuletlaw03_TopicCovers.l1 k3 Sji3 Sji6 false (wrap64 (x8_3 + 1)))) else (some false)) = some r := H
                                have A43 := Aside0.mk A430
                                clear A430
                                by_cases c44 : t235 = true
                                · subst c44
                                  have H1 : (if x7_3 = true then ((topic_Match.f Sji3 t232).bind fun t236 => (rivuletlaw03_TopicCovers.l1 k3 Sji3 Sji6 t236 (wrap64 (x8_3 + 1)))) else (rivuletlaw03_TopicCovers.l1 k3 Sji3 Sji6 false (wrap64 (x8_3 + 1)))) = some r := by rw [if_pos rfl] at H; exact H
                                  clear H
                                  have H := H1
                                  clear H1
                                  by_cases c45 : x7_3 = true
                                  · subst c45
                                    have H1 : ((topic_Match.f Sji3 t232).bind fun t236 => (rivuletlaw03_TopicCovers.l1 k3 Sji3 Sji6 t236 (wrap64 (x8_3 + 1)))) = some r := by rw [if_pos rfl] at H; exact H
                                    clear H
                                    have H := H1
                                    clear H1
                                    replace H := Option.bind_eq_some_iff.mp H
                                    obtain ⟨t236, A460, H⟩ := H
                                    replace H : (rivuletlaw03_TopicCovers.l1 k3 Sji3 Sji6 t236 (wrap64 (x8_3 + 1))) = some r := H
                                    have A46 := Aside0.mk A460
                                    clear A460
                                    have H' := Aside0.mk H
                                    clear H
                                    go_wp2_with (first | ((with_reducible refine gate_callee (f := 27) rfl ?_); refine goesL_ (some 63) rfl rfl Tryd.func27 (by kernel_rfl) rfl #[.string Sji6, .int .i64 x8_3] rfl (by (try simp only [List.map_toArray, List.map_cons, List.map_nil]); first | done | (simp only [hji6]; rfl) | rfl | (simp only [List.length_drop, List.length_take]; rfl)) ?_; (with_reducible refine (rivuletlaw03_fresh.calls k3 Sji6 x8_3 t232 true _ A39.out).mono ?_); rintro e w47 ⟨rfl, hb⟩; refine ⟨_, rfl, ?_⟩; have n0_ := Aside0.mk (below_step (by repeat (first | (with_reducible first | exact HB.out | apply below_alloc | apply pw_below_drewN | apply below_drew1) | exact HB.out)) hb); clear HB; have HB := n0_; clear n0_; (try clear hb); (try clear hb2); (try clear hk); (try clear hi)) | (go_at_call 21; (with_reducible refine (topic_Match.calls Sji6 t232 true _ A41.out).mono ?_); rintro e w48 ⟨rfl, hb⟩; have n0_ := Aside0.mk (below_step (by repeat (first | (with_reducible first | exact HB.out | apply below_alloc | apply pw_below_drewN | apply below_drew1) | exact HB.out)) hb); clear HB; have HB := n0_; clear n0_; (try clear hb); (try clear hb2); (try clear hk); (try clear hi)) | (go_at_call 11; (with_reducible refine (topic_Right.calls t232 true _ A43.out).mono ?_); rintro e w49 ⟨rfl, hb⟩; have n0_ := Aside0.mk (below_step (by repeat (first | (with_reducible first | exact HB.out | apply below_alloc | apply pw_below_drewN | apply below_drew1) | exact HB.out)) hb); clear HB; have HB := n0_; clear n0_; (try clear hb); (try clear hb2); (try clear hk); (try clear hi)) | (go_at_call 21; (with_reducible refine (topic_Match.calls Sji3 t232 t236 _ A46.out).mono ?_); rintro e w50 ⟨rfl, hb⟩; have n0_ := Aside0.mk (below_step (by repeat (first | (with_reducible first | exact HB.out | apply below_alloc | apply pw_below_drewN | apply below_drew1) | exact HB.out)) hb); clear HB; have HB := n0_; clear n0_; (try clear hb); (try clear hb2); (try clear hk); (try clear hi)))
                                    go_roundg k3
                                    case measure => have := HJ8.out; have := HK2.out; have := HK3.out; omega
                                    case rel => exact ⟨(t236), (wrap64 (x8_3 + 1)), (by first | rfl | (simp; done) | (simp [*]; done)), (by first | rfl | (simp; done) | (simp [*]; done)), H', ⟨by have := HJ8.out; have := HK2.out; have := HK3.out; omega⟩, ⟨by repeat (first | (with_reducible first | exact HB.out | apply below_alloc | apply pw_below_drewN | apply below_drew1) | exact HB.out)⟩⟩
                                  · replace c45 := Bool.eq_false_iff.mpr c45
                                    subst c45
                                    have H1 : (rivuletlaw03_TopicCovers.l1 k3 Sji3 Sji6 false (wrap64 (x8_3 + 1))) = some r := by rw [if_neg (show ¬ (false = true) by decide)] at H; exact H
                                    clear H
                                    have H := H1
                                    clear H1
                                    have H' := Aside0.mk H
                                    clear H
                                    go_wp2_with (first | ((with_reducible refine gate_callee (f := 27) rfl ?_); refine goesL_ (some 63) rfl rfl Tryd.func27 (by kernel_rfl) rfl #[.string Sji6, .int .i64 x8_3] rfl (by (try simp only [List.map_toArray, List.map_cons, List.map_nil]); first | done | (simp only [hji6]; rfl) | rfl | (simp only [List.length_drop, List.length_take]; rfl)) ?_; (with_reducible refine (rivuletlaw03_fresh.calls k3 Sji6 x8_3 t232 true _ A39.out).mono ?_); rintro e w51 ⟨rfl, hb⟩; refine ⟨_, rfl, ?_⟩; have n0_ := Aside0.mk (below_step (by repeat (first | (with_reducible first | exact HB.out | apply below_alloc | apply pw_below_drewN | apply below_drew1) | exact HB.out)) hb); clear HB; have HB := n0_; clear n0_; (try clear hb); (try clear hb2); (try clear hk); (try clear hi)) | (go_at_call 21; (with_reducible refine (topic_Match.calls Sji6 t232 true _ A41.out).mono ?_); rintro e w52 ⟨rfl, hb⟩; have n0_ := Aside0.mk (below_step (by repeat (first | (with_reducible first | exact HB.out | apply below_alloc | apply pw_below_drewN | apply below_drew1) | exact HB.out)) hb); clear HB; have HB := n0_; clear n0_; (try clear hb); (try clear hb2); (try clear hk); (try clear hi)) | (go_at_call 11; (with_reducible refine (topic_Right.calls t232 true _ A43.out).mono ?_); rintro e w53 ⟨rfl, hb⟩; have n0_ := Aside0.mk (below_step (by repeat (first | (with_reducible first | exact HB.out | apply below_alloc | apply pw_below_drewN | apply below_drew1) | exact HB.out)) hb); clear HB; have HB := n0_; clear n0_; (try clear hb); (try clear hb2); (try clear hk); (try clear hi)))
                                    go_roundg k3
                                    case measure => have := HJ8.out; have := HK2.out; have := HK3.out; omega
                                    case rel => exact ⟨(false), (wrap64 (x8_3 + 1)), (by first | rfl | (simp; done) | (simp [*]; done)), (by first | rfl | (simp; done) | (simp [*]; done)), H', ⟨by have := HJ8.out; have := HK2.out; have := HK3.out; omega⟩, ⟨by repeat (first | (with_reducible first | exact HB.out | apply below_alloc | apply pw_below_drewN | apply below_drew1) | exact HB.out)⟩⟩
                                · replace c44 := Bool.eq_false_iff.mpr c44
                                  subst c44
                                  have H1 : (some false) = some r := by rw [if_neg (show ¬ (false = true) by decide)] at H; exact H
                                  clear H
                                  have H := H1
                                  clear H1
                                  obtain rfl := Option.some.inj H
                                  go_wp2_with (first | ((with_reducible refine gate_callee (f := 27) rfl ?_); refine goesL_ (some 63) rfl rfl Tryd.func27 (by kernel_rfl) rfl #[.string Sji6, .int .i64 x8_3] rfl (by (try simp only [List.map_toArray, List.map_cons, List.map_nil]); first | done | (simp only [hji6]; rfl) | rfl | (simp only [List.length_drop, List.length_take]; rfl)) ?_; (with_reducible refine (rivuletlaw03_fresh.calls k3 Sji6 x8_3 t232 true _ A39.out).mono ?_); rintro e w54 ⟨rfl, hb⟩; refine ⟨_, rfl, ?_⟩; have n0_ := Aside0.mk (below_step (by repeat (first | (with_reducible first | exact HB.out | apply below_alloc | apply pw_below_drewN | apply below_drew1) | exact HB.out)) hb); clear HB; have HB := n0_; clear n0_; (try clear hb); (try clear hb2); (try clear hk); (try clear hi)) | (go_at_call 21; (with_reducible refine (topic_Match.calls Sji6 t232 true _ A41.out).mono ?_); rintro e w55 ⟨rfl, hb⟩; have n0_ := Aside0.mk (below_step (by repeat (first | (with_reducible first | exact HB.out | apply below_alloc | apply pw_below_drewN | apply below_drew1) | exact HB.out)) hb); clear HB; have HB := n0_; clear n0_; (try clear hb); (try clear hb2); (try clear hk); (try clear hi)) | (go_at_call 11; (with_reducible refine (topic_Right.calls t232 false _ A43.out).mono ?_); rintro e w56 ⟨rfl, hb⟩; have n0_ := Aside0.mk (below_step (by repeat (first | (with_reducible first | exact HB.out | apply below_alloc | apply pw_below_drewN | apply below_drew1) | exact HB.out)) hb); clear HB; have HB := n0_; clear n0_; (try clear hb); (try clear hb2); (try clear hk); (try clear hi)))
                                  go_ret
                                  exact ⟨by first | rfl | (simp [errW_none, errW_some] <;> rfl) | (simp only [← hji3, ← hji6]; first | rfl | (simp [errW_none, errW_some] <;> rfl)) | (simp [*, errW_none, errW_some] <;> rfl), by repeat (first | (with_reducible first | exact HB.out | apply below_alloc | apply pw_below_drewN | apply below_drew1) | exact HB.out)⟩
                              · replace c42 := Bool.eq_false_iff.mpr c42
                                subst c42
                                have H1 : (some false) = some r := by rw [if_neg (show ¬ (false = true) by decide)] at H; exact H
                                clear H
                                have H := H1
                                clear H1
                                obtain rfl := Option.some.inj H
                                go_wp2_with (first | ((with_reducible refine gate_callee (f := 27) rfl ?_); refine goesL_ (some 63) rfl rfl Tryd.func27 (by kernel_rfl) rfl #[.string Sji6, .int .i64 x8_3] rfl (by (try simp only [List.map_toArray, List.map_cons, List.map_nil]); first | done | (simp only [hji6]; rfl) | rfl | (simp only [List.length_drop, List.length_take]; rfl)) ?_; (with_reducible refine (rivuletlaw03_fresh.calls k3 Sji6 x8_3 t232 true _ A39.out).mono ?_); rintro e w57 ⟨rfl, hb⟩; refine ⟨_, rfl, ?_⟩; have n0_ := Aside0.mk (below_step (by repeat (first | (with_reducible first | exact HB.out | apply below_alloc | apply pw_below_drewN | apply below_drew1) | exact HB.out)) hb); clear HB; have HB := n0_; clear n0_; (try clear hb); (try clear hb2); (try clear hk); (try clear hi)) | (go_at_call 21; (with_reducible refine (topic_Match.calls Sji6 t232 false _ A41.out).mono ?_); rintro e w58 ⟨rfl, hb⟩; have n0_ := Aside0.mk (below_step (by repeat (first | (with_reducible first | exact HB.out | apply below_alloc | apply pw_below_drewN | apply below_drew1) | exact HB.out)) hb); clear HB; have HB := n0_; clear n0_; (try clear hb); (try clear hb2); (try clear hk); (try clear hi)))
                                go_ret
                                exact ⟨by first | rfl | (simp [errW_none, errW_some] <;> rfl) | (simp only [← hji3, ← hji6]; first | rfl | (simp [errW_none, errW_some] <;> rfl)) | (simp [*, errW_none, errW_some] <;> rfl), by repeat (first | (with_reducible first | exact HB.out | apply below_alloc | apply pw_below_drewN | apply below_drew1) | exact HB.out)⟩
                            · replace c40 := Bool.eq_false_iff.mpr c40
                              subst c40
                              have H1 : (if x7_3 = true then (rivuletlaw03_TopicCovers.l1 k3 Sji3 Sji6 true (wrap64 (x8_3 + 1))) else (rivuletlaw03_TopicCovers.l1 k3 Sji3 Sji6 false (wrap64 (x8_3 + 1)))) = some r := by rw [if_neg (show ¬ (false = true) by decide)] at H; exact H
                              clear H
                              have H := H1
                              clear H1
                              by_cases c59 : x7_3 = true
                              · subst c59
                                have H1 : (rivuletlaw03_TopicCovers.l1 k3 Sji3 Sji6 true (wrap64 (x8_3 + 1))) = some r := by rw [if_pos rfl] at H; exact H
                                clear H
                                have H := H1
                                clear H1
                                have H' := Aside0.mk H
                                clear H
                                go_wp2_with (first | ((with_reducible refine gate_callee (f := 27) rfl ?_); refine goesL_ (some 63) rfl rfl Tryd.func27 (by kernel_rfl) rfl #[.string Sji6, .int .i64 x8_3] rfl (by (try simp only [List.map_toArray, List.map_cons, List.map_nil]); first | done | (simp only [hji6]; rfl) | rfl | (simp only [List.length_drop, List.length_take]; rfl)) ?_; (with_reducible refine (rivuletlaw03_fresh.calls k3 Sji6 x8_3 t232 false _ A39.out).mono ?_); rintro e w60 ⟨rfl, hb⟩; refine ⟨_, rfl, ?_⟩; have n0_ := Aside0.mk (below_step (by repeat (first | (with_reducible first | exact HB.out | apply below_alloc | apply pw_below_drewN | apply below_drew1) | exact HB.out)) hb); clear HB; have HB := n0_; clear n0_; (try clear hb); (try clear hb2); (try clear hk); (try clear hi)))
                                go_roundg k3
                                case measure => have := HJ8.out; have := HK2.out; have := HK3.out; omega
                                case rel => exact ⟨(true), (wrap64 (x8_3 + 1)), (by first | rfl | (simp; done) | (simp [*]; done)), (by first | rfl | (simp; done) | (simp [*]; done)), H', ⟨by have := HJ8.out; have := HK2.out; have := HK3.out; omega⟩, ⟨by repeat (first | (with_reducible first | exact HB.out | apply below_alloc | apply pw_below_drewN | apply below_drew1) | exact HB.out)⟩⟩
                              · replace c59 := Bool.eq_false_iff.mpr c59
                                subst c59
                                have H1 : (rivuletlaw03_TopicCovers.l1 k3 Sji3 Sji6 false (wrap64 (x8_3 + 1))) = some r := by rw [if_neg (show ¬ (false = true) by decide)] at H; exact H
                                clear H
                                have H := H1
                                clear H1
                                have H' := Aside0.mk H
                                clear H
                                go_wp2_with (first | ((with_reducible refine gate_callee (f := 27) rfl ?_); refine goesL_ (some 63) rfl rfl Tryd.func27 (by kernel_rfl) rfl #[.string Sji6, .int .i64 x8_3] rfl (by (try simp only [List.map_toArray, List.map_cons, List.map_nil]); first | done | (simp only [hji6]; rfl) | rfl | (simp only [List.length_drop, List.length_take]; rfl)) ?_; (with_reducible refine (rivuletlaw03_fresh.calls k3 Sji6 x8_3 t232 false _ A39.out).mono ?_); rintro e w61 ⟨rfl, hb⟩; refine ⟨_, rfl, ?_⟩; have n0_ := Aside0.mk (below_step (by repeat (first | (with_reducible first | exact HB.out | apply below_alloc | apply pw_below_drewN | apply below_drew1) | exact HB.out)) hb); clear HB; have HB := n0_; clear n0_; (try clear hb); (try clear hb2); (try clear hk); (try clear hi)))
                                go_roundg k3
                                case measure => have := HJ8.out; have := HK2.out; have := HK3.out; omega
                                case rel => exact ⟨(false), (wrap64 (x8_3 + 1)), (by first | rfl | (simp; done) | (simp [*]; done)), (by first | rfl | (simp; done) | (simp [*]; done)), H', ⟨by have := HJ8.out; have := HK2.out; have := HK3.out; omega⟩, ⟨by repeat (first | (with_reducible first | exact HB.out | apply below_alloc | apply pw_below_drewN | apply below_drew1) | exact HB.out)⟩⟩
                          · rw [if_neg c38] at H
                            have c38b0 : decide (x8_3 ≤ 8) = false := decide_eq_false c38
                            clear c38
                            replace H := Option.bind_eq_some_iff.mp H
                            obtain ⟨t230, A620, H⟩ := H
                            replace H : (if (t230 == x7_3) = true then ((rivuletlaw03_fixed.f).bind fun t231 => (some t231)) else (some false)) = some r := H
                            have A62 := Aside0.mk A620
                            clear A620
                            by_cases c63 : (t230 == x7_3) = true
                            · rw [if_pos c63] at H
                              have c63b0 : (t230 == x7_3) = true := c63
                              (try (have c63b1 : decide (t230 = x7_3) = true := by simpa using c63))
                              (try (have c63b2 : (t230 == x7_3) = true := by simpa using c63))
                              clear c63
                              replace H := Option.bind_eq_some_iff.mp H
                              obtain ⟨t231, A640, H⟩ := H
                              replace H : (some t231) = some r := H
                              have A64 := Aside0.mk A640
                              clear A640
                              obtain rfl := Option.some.inj H
                              go_wp2_with (first | ((with_reducible refine gate_callee (f := 23) rfl ?_); refine goesL_ (some 90) rfl rfl Tryd.func23 (by kernel_rfl) rfl #[.string Sji3, .string Sji6] rfl (by (try simp only [List.map_toArray, List.map_cons, List.map_nil]); first | done | (simp only [hji3, hji6]; rfl) | rfl | (simp only [List.length_drop, List.length_take]; rfl)) ?_; (with_reducible refine (topic_Covers.calls Sji3 Sji6 t230 _ A62.out).mono ?_); rintro e w65 ⟨rfl, hb⟩; refine ⟨_, rfl, ?_⟩; have n0_ := Aside0.mk (below_step (by repeat (first | (with_reducible first | exact HB.out | apply below_alloc | apply pw_below_drewN | apply below_drew1) | exact HB.out)) hb); clear HB; have HB := n0_; clear n0_; (try clear hb); (try clear hb2); (try clear hk); (try clear hi)) | (go_at_call 20; (with_reducible refine (rivuletlaw03_fixed.calls  t231 _ A64.out).mono ?_); rintro e w66 ⟨rfl, hb⟩; have n0_ := Aside0.mk (below_step (by repeat (first | (with_reducible first | exact HB.out | apply below_alloc | apply pw_below_drewN | apply below_drew1) | exact HB.out)) hb); clear HB; have HB := n0_; clear n0_; (try clear hb); (try clear hb2); (try clear hk); (try clear hi)))
                              go_ret
                              exact ⟨by first | rfl | (simp [errW_none, errW_some] <;> rfl) | (simp only [← hji3, ← hji6]; first | rfl | (simp [errW_none, errW_some] <;> rfl)) | (simp [*, errW_none, errW_some] <;> rfl), by repeat (first | (with_reducible first | exact HB.out | apply below_alloc | apply pw_below_drewN | apply below_drew1) | exact HB.out)⟩
                            · rw [if_neg c63] at H
                              have c63b0 : (t230 == x7_3) = false := by simpa using c63
                              (try (have c63b1 : decide (t230 = x7_3) = false := by simpa using c63))
                              (try (have c63b2 : (t230 == x7_3) = false := by simpa using c63))
                              (try (have c63b3 : ¬ (t230 = x7_3) := by simpa using c63))
                              clear c63
                              obtain rfl := Option.some.inj H
                              go_wp2_with (first | ((with_reducible refine gate_callee (f := 23) rfl ?_); refine goesL_ (some 90) rfl rfl Tryd.func23 (by kernel_rfl) rfl #[.string Sji3, .string Sji6] rfl (by (try simp only [List.map_toArray, List.map_cons, List.map_nil]); first | done | (simp only [hji3, hji6]; rfl) | rfl | (simp only [List.length_drop, List.length_take]; rfl)) ?_; (with_reducible refine (topic_Covers.calls Sji3 Sji6 t230 _ A62.out).mono ?_); rintro e w67 ⟨rfl, hb⟩; refine ⟨_, rfl, ?_⟩; have n0_ := Aside0.mk (below_step (by repeat (first | (with_reducible first | exact HB.out | apply below_alloc | apply pw_below_drewN | apply below_drew1) | exact HB.out)) hb); clear HB; have HB := n0_; clear n0_; (try clear hb); (try clear hb2); (try clear hk); (try clear hi)))
                              go_ret
                              exact ⟨by first | rfl | (simp [errW_none, errW_some] <;> rfl) | (simp only [← hji3, ← hji6]; first | rfl | (simp [errW_none, errW_some] <;> rfl)) | (simp [*, errW_none, errW_some] <;> rfl), by repeat (first | (with_reducible first | exact HB.out | apply below_alloc | apply pw_below_drewN | apply below_drew1) | exact HB.out)⟩
        · rw [if_neg c8] at H
          exact absurd H (by simp)
      · rw [if_neg c7] at H
        exact absurd H (by simp)
    · rw [if_neg c5] at H
      exact absurd H (by simp)
  · rw [if_neg c4] at H
    exact absurd H (by simp)

/-- THE ONE PURE STATEMENT of rivuletlaw03_TopicCovers: yours. -/
def rivuletlaw03_TopicCovers.Pure : Prop := ∀ (a0 : ByteArray) (a1 : ByteArray), a0.size ≤ 140737488351232 → a1.size ≤ 140737488351232 → ∃ k, rivuletlaw03_TopicCovers.f k a0 a1 = some true
theorem rivuletlaw03_TopicCovers.walk (P : rivuletlaw03_TopicCovers.Pure) (a0 : ByteArray) (a1 : ByteArray) (w : World) (w0 : a0.size ≤ 140737488351232) (w1 : a1.size ≤ 140737488351232) :
    Calls Tryd.prog 5 #[.string a0, .string a1] w fun e w' => e = .returned (.bool true) ∧ Below w.heap.size w w' := by
  obtain ⟨k, h⟩ := P a0 a1 w0 w1
  refine (rivuletlaw03_TopicCovers.calls k a0 a1 true w h).mono ?_
  rintro e w' ⟨rfl, hd⟩
  exact ⟨rfl, hd⟩

end Go.Proofs.YtfakimleoihfgaaDoor.Pr
