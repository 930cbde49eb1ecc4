-- Printed by this session's changed copy of the kit's printer (wip/tools/mkprint.py; some functions are given by hand). Lean checks it.
import Derived.Test.YtfakimleoihfgaaDoorPr0
import Derived.Test.YtfakimleoihfgaaDoorPr1
namespace Go.Proofs.YtfakimleoihfgaaDoor.Pr
open Go.RowKit Go.Proofs.YtfakimleoihfgaaDoorW.PrintWords Go.Proofs.YtfakimleoihfgaaDoorW.PrintLast Go.Proofs.YtfakimleoihfgaaDoorW.PrintMore
attribute [local go_sem] max2_int min2_int max_two min_two max_three min_three max_four min_four   -- for this text's walks alone
set_option linter.unusedVariables false
set_option linter.unusedSimpArgs false

/-! ### rivuletlaw03_TopicWider: function 9 -/
def rivuletlaw03_TopicWider.j0 : Nat → ByteArray → ByteArray → Bool → Option (Bool)
  | 0, _, _, _ => none
  | k + 1, x0, x1, x25 => if x25 = true then ((rivuletlaw03_fixed.f).bind fun t285 => (some t285)) else ((topic_Match.f x0 x1).bind fun t286 => (if 2 + x0.size ≤ 9223372036854775807 then (if 2 + x1.size ≤ 9223372036854775807 then ((topic_Match.f ((⟨#[43, 47]⟩ : ByteArray) ++ x0) ((⟨#[120, 47]⟩ : ByteArray) ++ x1)).bind fun t287 => (if (t287 == t286) = true then ((topic_Match.f ((⟨#[120, 47]⟩ : ByteArray) ++ x0) ((⟨#[120, 47]⟩ : ByteArray) ++ x1)).bind fun t288 => (if (t288 == t286) = true then ((topic_Match.f ((⟨#[121, 47]⟩ : ByteArray) ++ x0) ((⟨#[120, 47]⟩ : ByteArray) ++ x1)).bind fun t289 => (if t289 = true then (some false) else ((topic_Covers.f ((⟨#[43, 47]⟩ : ByteArray) ++ x0) ((⟨#[120, 47]⟩ : ByteArray) ++ x0)).bind fun t290 => ((topic_Filter.f x0).bind fun t291 => (if (t290 == t291) = true then ((rivuletlaw03_fixed.f).bind fun t292 => (some t292)) else (some false)))))) else (some false))) else (some false))) else (none)) else (none)))
def rivuletlaw03_TopicWider.f (k : Nat) (a0 : ByteArray) (a1 : ByteArray) : Option (Bool) := if 0 ≤ (mn (a0.size : Int) 150) then (if (mn (a0.size : Int) 150) ≤ (a0.size : Int) then (if 0 ≤ (mn (a1.size : Int) 150) then (if (mn (a1.size : Int) 150) ≤ (a1.size : Int) then ((rivuletref03_Levels.f k (a0.extract 0 ((mn (a0.size : Int) 150) : Int).toNat)).bind fun t279 => (if (t279.length : Int) ≥ 8 then (rivuletlaw03_TopicWider.j0 k (a0.extract 0 ((mn (a0.size : Int) 150) : Int).toNat) (a1.extract 0 ((mn (a1.size : Int) 150) : Int).toNat) true) else ((rivuletref03_Levels.f k (a1.extract 0 ((mn (a1.size : Int) 150) : Int).toNat)).bind fun t282 => (rivuletlaw03_TopicWider.j0 k (a0.extract 0 ((mn (a0.size : Int) 150) : Int).toNat) (a1.extract 0 ((mn (a1.size : Int) 150) : Int).toNat) (decide ((t282.length : Int) ≥ 8)))))) else (none)) else (none)) else (none)) else (none)
theorem rivuletlaw03_TopicWider.mono_l : ∀ k, (∀ y0 y1 y2, LeO (rivuletlaw03_TopicWider.j0 k y0 y1 y2) (rivuletlaw03_TopicWider.j0 (k + 1) y0 y1 y2))
  | 0 => fun _ _ _ r h => by simp [rivuletlaw03_TopicWider.j0] at h
  | k + 1 => by
    have ih0 := rivuletlaw03_TopicWider.mono_l k
    · intro y0 y1 y2
      unfold rivuletlaw03_TopicWider.j0
      repeat' first
      | (with_reducible exact ih0 _ _ _)
      | (with_reducible exact rivuletref03_Levels.mono _ _)
      | (with_reducible exact LeO.refl _)
      | (with_reducible exact LeO.none _)
      | (with_reducible refine LeO.ite ?_ ?_)
      | (with_reducible refine LeO.bind ?_ (fun _ => ?_))
      | exact ih0 _ _ _
      | exact rivuletref03_Levels.mono _ _
      | exact LeO.none _
      | refine LeO.ite ?_ ?_
      | refine LeO.bind ?_ (fun _ => ?_)
theorem rivuletlaw03_TopicWider.mono : ∀ a0 a1 k, LeO (rivuletlaw03_TopicWider.f k a0 a1) (rivuletlaw03_TopicWider.f (k + 1) a0 a1) := by
  intro a0 a1 k
  have ih0 := rivuletlaw03_TopicWider.mono_l k
  unfold rivuletlaw03_TopicWider.f
  repeat' first
      | (with_reducible exact ih0 _ _ _)
      | (with_reducible exact rivuletref03_Levels.mono _ _)
      | (with_reducible exact LeO.refl _)
      | (with_reducible exact LeO.none _)
      | (with_reducible refine LeO.ite ?_ ?_)
      | (with_reducible refine LeO.bind ?_ (fun _ => ?_))
      | exact ih0 _ _ _
      | exact rivuletref03_Levels.mono _ _
      | exact LeO.none _
      | refine LeO.ite ?_ ?_
      | refine LeO.bind ?_ (fun _ => ?_)
set_option maxHeartbeats 8000000 in
set_option maxRecDepth 100000 in
theorem rivuletlaw03_TopicWider.calls (k : Nat) (a0 : ByteArray) (a1 : ByteArray) (r : Bool) (w : World) (h : rivuletlaw03_TopicWider.f k a0 a1 = some r) :
    Calls Tryd.prog 9 #[.string a0, .string a1] w fun e w' => e = .returned (.bool r) ∧ Below w.heap.size w w' := by
  have HB := Aside0.mk (Below.refl w.heap.size w)
  have H : (if 0 ≤ (mn (a0.size : Int) 150) then (if (mn (a0.size : Int) 150) ≤ (a0.size : Int) then (if 0 ≤ (mn (a1.size : Int) 150) then (if (mn (a1.size : Int) 150) ≤ (a1.size : Int) then ((rivuletref03_Levels.f k (a0.extract 0 ((mn (a0.size : Int) 150) : Int).toNat)).bind fun t279 => (if (t279.length : Int) ≥ 8 then (rivuletlaw03_TopicWider.j0 k (a0.extract 0 ((mn (a0.size : Int) 150) : Int).toNat) (a1.extract 0 ((mn (a1.size : Int) 150) : Int).toNat) true) else ((rivuletref03_Levels.f k (a1.extract 0 ((mn (a1.size : Int) 150) : Int).toNat)).bind fun t282 => (rivuletlaw03_TopicWider.j0 k (a0.extract 0 ((mn (a0.size : Int) 150) : Int).toNat) (a1.extract 0 ((mn (a1.size : Int) 150) : Int).toNat) (decide ((t282.length : Int) ≥ 8)))))) else (none)) else (none)) else (none)) else (none)) = some r := h
  clear h
  obtain ⟨ji3, hji3⟩ : ∃ j_ : Int, (mn (a0.size : Int) 150) = j_ := ⟨_, rfl⟩
  replace H : (if 0 ≤ (ji3) then (if (ji3) ≤ (a0.size : Int) then (if 0 ≤ (mn (a1.size : Int) 150) then (if (mn (a1.size : Int) 150) ≤ (a1.size : Int) then ((rivuletref03_Levels.f k (a0.extract 0 ((ji3) : Int).toNat)).bind fun t279 => (if (t279.length : Int) ≥ 8 then (rivuletlaw03_TopicWider.j0 k (a0.extract 0 ((ji3) : Int).toNat) (a1.extract 0 ((mn (a1.size : Int) 150) : Int).toNat) true) else ((rivuletref03_Levels.f k (a1.extract 0 ((mn (a1.size : Int) 150) : Int).toNat)).bind fun t282 => (rivuletlaw03_TopicWider.j0 k (a0.extract 0 ((ji3) : Int).toNat) (a1.extract 0 ((mn (a1.size : Int) 150) : Int).toNat) (decide ((t282.length : Int) ≥ 8)))))) else (none)) else (none)) else (none)) else (none)) = some r := by first | (rw [hji3] at H; exact H) | (simp only [hji3] at H ⊢; exact H)
  (try (have hji3h : ji3 ≤ 150 := by (rw [← hji3]; unfold mn; (repeat' split) <;> omega)))
  (try (have hji3g : ji3 ≤ 64 := by omega))
  (try (have hji3l : 0 ≤ ji3 := by (rw [← hji3]; unfold mn; (repeat' split) <;> omega)))
  (try (have hji3m : 0 ≤ ji3 := by omega))
  have hji3_ : (if 150 < (a0.size : Int) then 150 else (a0.size : Int)) = ji3 := hji3
  obtain ⟨Sji3, hSji3⟩ : ∃ S_ : ByteArray, a0.extract 0 (ji3 : Int).toNat = S_ := ⟨_, rfl⟩
  simp only [hSji3] at H
  by_cases c4 : 0 ≤ (ji3)
  · rw [if_pos c4] at H
    have c4b0 := eq_true c4
    have c4b1 : decide (0 ≤ (ji3)) = true := decide_eq_true c4
    clear c4
    by_cases c5 : (ji3) ≤ (a0.size : Int)
    · rw [if_pos c5] at H
      have c5b0 := eq_true c5
      have c5b1 : decide ((ji3) ≤ (a0.size : Int)) = true := decide_eq_true c5
      clear c5
      obtain ⟨ji6, hji6⟩ : ∃ j_ : Int, (mn (a1.size : Int) 150) = j_ := ⟨_, rfl⟩
      replace H : (if 0 ≤ (ji6) then (if (ji6) ≤ (a1.size : Int) then ((rivuletref03_Levels.f k Sji3).bind fun t279 => (if (t279.length : Int) ≥ 8 then (rivuletlaw03_TopicWider.j0 k Sji3 (a1.extract 0 ((ji6) : Int).toNat) true) else ((rivuletref03_Levels.f k (a1.extract 0 ((ji6) : Int).toNat)).bind fun t282 => (rivuletlaw03_TopicWider.j0 k Sji3 (a1.extract 0 ((ji6) : Int).toNat) (decide ((t282.length : Int) ≥ 8)))))) else (none)) else (none)) = some r := by first | (rw [hji6] at H; exact H) | (simp only [hji6] at H ⊢; exact H)
      (try (have hji6h : ji6 ≤ 150 := by (rw [← hji6]; unfold mn; (repeat' split) <;> omega)))
      (try (have hji6g : ji6 ≤ 64 := by omega))
      (try (have hji6l : 0 ≤ ji6 := by (rw [← hji6]; unfold mn; (repeat' split) <;> omega)))
      (try (have hji6m : 0 ≤ ji6 := by omega))
      have hji6_ : (if 150 < (a1.size : Int) then 150 else (a1.size : Int)) = ji6 := hji6
      obtain ⟨Sji6, hSji6⟩ : ∃ S_ : ByteArray, a1.extract 0 (ji6 : Int).toNat = S_ := ⟨_, rfl⟩
      simp only [hSji6] at H
      by_cases c7 : 0 ≤ (ji6)
      · rw [if_pos c7] at H
        have c7b0 := eq_true c7
        have c7b1 : decide (0 ≤ (ji6)) = true := decide_eq_true c7
        clear c7
        by_cases c8 : (ji6) ≤ (a1.size : Int)
        · rw [if_pos c8] at H
          have c8b0 := eq_true c8
          have c8b1 : decide ((ji6) ≤ (a1.size : Int)) = true := decide_eq_true c8
          clear c8
          have HC9 := Aside0.mk H
          clear H
          go_enter Tryd.func9, Tryd.ntmps9
          go_upto_region 3 with (fail)
          go_cut [25] (fun v25 wc => ∃ (kq : Nat) (x25_8 : Bool), v25 = .bool x25_8 ∧ Aside0 (rivuletlaw03_TopicWider.j0 kq Sji3 Sji6 x25_8 = some r) ∧ Aside0 (kq ≤ k) ∧ Aside0 (Below w.heap.size w wc))
          case first =>
            have H := HC9.out
            clear HC9
            replace H := Option.bind_eq_some_iff.mp H
            obtain ⟨t279, A100, H⟩ := H
            replace H : (if (t279.length : Int) ≥ 8 then (rivuletlaw03_TopicWider.j0 k Sji3 Sji6 true) else ((rivuletref03_Levels.f k Sji6).bind fun t282 => (rivuletlaw03_TopicWider.j0 k Sji3 Sji6 (decide ((t282.length : Int) ≥ 8))))) = some r := H
            have A10 := Aside0.mk A100
            clear A100
            by_cases c11 : (t279.length : Int) ≥ 8
            · rw [if_pos c11] at H
              have c11b0 : decide (8 ≤ (t279.length : Int)) = true := decide_eq_true c11
              have c11b1 : decide (8 ≤ t279.length) = true := decide_eq_true (by omega)
              clear c11
              (first | rw [c11b0] | (simp only [i64_w, i32_w]; rw [c11b0]) | skip)
              have H' := Aside0.mk H
              clear H
              go_wp2_with (first | ((with_reducible refine gate_callee (f := 17) rfl ?_); refine goesL_ (some 17) rfl rfl Tryd.func17 (by kernel_rfl) rfl #[.string Sji3] rfl (by (try simp only [List.map_toArray, List.map_cons, List.map_nil]); first | done | (simp only [hji3]; rfl) | rfl | (simp only [List.length_drop, List.length_take]; rfl)) ?_; (with_reducible refine (rivuletref03_Levels.calls k Sji3 t279 _ A10.out).mono ?_); rintro e w12 ⟨v280, rfl, ho0, hb⟩; refine ⟨_, rfl, ?_⟩; have n0_ := Aside0.mk (Kd.R_lower ho0 (below_size (by repeat (first | (with_reducible first | exact HB.out | apply below_alloc | apply pw_below_drewN | apply below_drew1) | exact HB.out)))); have n1_ := Aside0.mk (below_step (by repeat (first | (with_reducible first | exact HB.out | apply below_alloc | apply pw_below_drewN | apply below_drew1) | exact HB.out)) hb); clear HB; have HO281 := n0_; have HB := n1_; clear n0_ n1_; (try clear hb); (try clear hb2); (try clear hk); (try clear hi); (try clear ho0); obtain ⟨Ao13, co13, eo13⟩ := Kd.R_slice HO281.out; subst eo13))
              go_meet
              case rel => exact ⟨_, (true), (by first | rfl | (simp; done) | (simp [*]; done)), H', ⟨by first | omega | exact Nat.le_refl _⟩, ⟨by repeat (first | (with_reducible first | exact HB.out | apply below_alloc | apply pw_below_drewN | apply below_drew1) | exact HB.out)⟩⟩
            · rw [if_neg c11] at H
              have c11b0 : decide (8 ≤ (t279.length : Int)) = false := decide_eq_false c11
              have c11b1 : decide (8 ≤ t279.length) = false := decide_eq_false (by omega)
              clear c11
              (first | rw [c11b0] | (simp only [i64_w, i32_w]; rw [c11b0]) | skip)
              replace H := Option.bind_eq_some_iff.mp H
              obtain ⟨t282, A140, H⟩ := H
              replace H : (rivuletlaw03_TopicWider.j0 k Sji3 Sji6 (decide ((t282.length : Int) ≥ 8))) = some r := H
              have A14 := Aside0.mk A140
              clear A140
              have H' := Aside0.mk H
              clear H
              go_wp2_with (first | ((with_reducible refine gate_callee (f := 17) rfl ?_); refine goesL_ (some 17) rfl rfl Tryd.func17 (by kernel_rfl) rfl #[.string Sji3] rfl (by (try simp only [List.map_toArray, List.map_cons, List.map_nil]); first | done | (simp only [hji3]; rfl) | rfl | (simp only [List.length_drop, List.length_take]; rfl)) ?_; (with_reducible refine (rivuletref03_Levels.calls k Sji3 t279 _ A10.out).mono ?_); rintro e w15 ⟨v280, rfl, ho0, hb⟩; refine ⟨_, rfl, ?_⟩; have n0_ := Aside0.mk (Kd.R_lower ho0 (below_size (by repeat (first | (with_reducible first | exact HB.out | apply below_alloc | apply pw_below_drewN | apply below_drew1) | exact HB.out)))); have n1_ := Aside0.mk (below_step (by repeat (first | (with_reducible first | exact HB.out | apply below_alloc | apply pw_below_drewN | apply below_drew1) | exact HB.out)) hb); clear HB; have HO281 := n0_; have HB := n1_; clear n0_ n1_; (try clear hb); (try clear hb2); (try clear hk); (try clear hi); (try clear ho0); obtain ⟨Ao16, co16, eo16⟩ := Kd.R_slice HO281.out; subst eo16) | (go_at_call 17; (with_reducible refine (rivuletref03_Levels.calls k Sji6 t282 _ A14.out).mono ?_); rintro e w17 ⟨v283, rfl, ho0, hb⟩; have n0_ := Aside0.mk (Kd.R_elder' (by (with_reducible repeat (first | apply Kd.R_alloc | apply Kd.R_drewN | apply Kd.R_drew)); exact HO281.out) (Kd.R_base ho0) hb); have n1_ := Aside0.mk (Kd.R_lower (Kd.R_new' ho0 (Kd.R_lt (by (with_reducible repeat (first | apply Kd.R_alloc | apply Kd.R_drewN | apply Kd.R_drew)); exact HO281.out))) (below_size (by repeat (first | (with_reducible first | exact HB.out | apply below_alloc | apply pw_below_drewN | apply below_drew1) | exact HB.out)))); have n2_ := Aside0.mk (below_step (by repeat (first | (with_reducible first | exact HB.out | apply below_alloc | apply pw_below_drewN | apply below_drew1) | exact HB.out)) hb); clear HO281; clear HB; have HO281 := n0_; have HO284 := n1_; have HB := n2_; clear n0_ n1_ n2_; (try clear hb); (try clear hb2); (try clear hk); (try clear hi); (try clear ho0); obtain ⟨Ao18, co18, eo18⟩ := Kd.R_slice HO284.out; subst eo18))
              go_meet
              case rel => exact ⟨_, (decide ((t282.length : Int) ≥ 8)), (by first | rfl | (simp; done) | (simp [*]; done)), H', ⟨by first | omega | exact Nat.le_refl _⟩, ⟨by repeat (first | (with_reducible first | exact HB.out | apply below_alloc | apply pw_below_drewN | apply below_drew1) | exact HB.out)⟩⟩
          case rest =>
            clear HC9
            try clear c1
            try clear p2
            try clear c4
            try clear c4b0
            try clear c4b1
            try clear c5
            try clear c5b0
            try clear c5b1
            try clear c7
            try clear c7b0
            try clear c7b1
            try clear c8
            try clear c8b0
            try clear c8b1
            try clear c9
            try clear c11
            try clear c11b0
            try clear c11b1
            try clear c17
            obtain ⟨kq, x25_8, rfl, HA, HJ8, HB⟩ := hcut
            cases kq with
            | zero => exact absurd HA.out (by simp [rivuletlaw03_TopicWider.j0])
            | succ kj8 =>
              have H := HA.out
              clear HA
              simp only [rivuletlaw03_TopicWider.j0] at H
              by_cases c19 : x25_8 = true
              · subst c19
                have H1 : ((rivuletlaw03_fixed.f).bind fun t285 => (some t285)) = some r := by rw [if_pos rfl] at H; exact H
                clear H
                have H := H1
                clear H1
                replace H := Option.bind_eq_some_iff.mp H
                obtain ⟨t285, A200, H⟩ := H
                replace H : (some t285) = some r := H
                have A20 := Aside0.mk A200
                clear A200
                obtain rfl := Option.some.inj H
                go_wp2_with (first | ((with_reducible refine gate_callee (f := 20) rfl ?_); refine goesL_ (some 26) rfl rfl Tryd.func20 (by kernel_rfl) rfl #[] rfl (by (try simp only [List.map_toArray, List.map_cons, List.map_nil]); first | done | rfl | (simp only [List.length_drop, List.length_take]; rfl)) ?_; (with_reducible refine (rivuletlaw03_fixed.calls  t285 _ A20.out).mono ?_); rintro e w21 ⟨rfl, hb⟩; refine ⟨_, rfl, ?_⟩; have n0_ := Aside0.mk (below_step (by repeat (first | (with_reducible first | exact HB.out | apply below_alloc | apply pw_below_drewN | apply below_drew1) | exact HB.out)) hb); clear HB; have HB := n0_; clear n0_; (try clear hb); (try clear hb2); (try clear hk); (try clear hi)))
                go_ret
                exact ⟨by first | rfl | (simp [errW_none, errW_some] <;> rfl) | (simp only [← hji3, ← hji6]; first | rfl | (simp [errW_none, errW_some] <;> rfl)) | (simp [*, errW_none, errW_some] <;> rfl), by repeat (first | (with_reducible first | exact HB.out | apply below_alloc | apply pw_below_drewN | apply below_drew1) | exact HB.out)⟩
              · replace c19 := Bool.eq_false_iff.mpr c19
                subst c19
                have H1 : ((topic_Match.f Sji3 Sji6).bind fun t286 => (if 2 + Sji3.size ≤ 9223372036854775807 then (if 2 + Sji6.size ≤ 9223372036854775807 then ((topic_Match.f ((⟨#[43, 47]⟩ : ByteArray) ++ Sji3) ((⟨#[120, 47]⟩ : ByteArray) ++ Sji6)).bind fun t287 => (if (t287 == t286) = true then ((topic_Match.f ((⟨#[120, 47]⟩ : ByteArray) ++ Sji3) ((⟨#[120, 47]⟩ : ByteArray) ++ Sji6)).bind fun t288 => (if (t288 == t286) = true then ((topic_Match.f ((⟨#[121, 47]⟩ : ByteArray) ++ Sji3) ((⟨#[120, 47]⟩ : ByteArray) ++ Sji6)).bind fun t289 => (if t289 = true then (some false) else ((topic_Covers.f ((⟨#[43, 47]⟩ : ByteArray) ++ Sji3) ((⟨#[120, 47]⟩ : ByteArray) ++ Sji3)).bind fun t290 => ((topic_Filter.f Sji3).bind fun t291 => (if (t290 == t291) = true then ((rivuletlaw03_fixed.f).bind fun t292 => (some t292)) else (some false)))))) else (some false))) else (some false))) else (none)) else (none))) = some r := by rw [if_neg (show ¬ (false = true) by decide)] at H; exact H
                clear H
                have H := H1
                clear H1
                replace H := Option.bind_eq_some_iff.mp H
                obtain ⟨t286, A220, H⟩ := H
                replace H : (if 2 + Sji3.size ≤ 9223372036854775807 then (if 2 + Sji6.size ≤ 9223372036854775807 then ((topic_Match.f ((⟨#[43, 47]⟩ : ByteArray) ++ Sji3) ((⟨#[120, 47]⟩ : ByteArray) ++ Sji6)).bind fun t287 => (if (t287 == t286) = true then ((topic_Match.f ((⟨#[120, 47]⟩ : ByteArray) ++ Sji3) ((⟨#[120, 47]⟩ : ByteArray) ++ Sji6)).bind fun t288 => (if (t288 == t286) = true then ((topic_Match.f ((⟨#[121, 47]⟩ : ByteArray) ++ Sji3) ((⟨#[120, 47]⟩ : ByteArray) ++ Sji6)).bind fun t289 => (if t289 = true then (some false) else ((topic_Covers.f ((⟨#[43, 47]⟩ : ByteArray) ++ Sji3) ((⟨#[120, 47]⟩ : ByteArray) ++ Sji3)).bind fun t290 => ((topic_Filter.f Sji3).bind fun t291 => (if (t290 == t291) = true then ((rivuletlaw03_fixed.f).bind fun t292 => (some t292)) else (some false)))))) else (some false))) else (some false))) else (none)) else (none)) = some r := H
                have A22 := Aside0.mk A220
                clear A220
                by_cases c23 : 2 + Sji3.size ≤ 9223372036854775807
                · rw [if_pos c23] at H
                  have c23b0 := eq_true c23
                  have c23b1 : decide (2 + Sji3.size ≤ 9223372036854775807) = true := decide_eq_true c23
                  try have c23b2 : (9223372036854775807 < 2 + Sji3.size) = False := eq_false (Nat.not_lt.2 c23)
                  by_cases c24 : 2 + Sji6.size ≤ 9223372036854775807
                  · rw [if_pos c24] at H
                    have c24b0 := eq_true c24
                    have c24b1 : decide (2 + Sji6.size ≤ 9223372036854775807) = true := decide_eq_true c24
                    try have c24b2 : (9223372036854775807 < 2 + Sji6.size) = False := eq_false (Nat.not_lt.2 c24)
                    replace H := Option.bind_eq_some_iff.mp H
                    obtain ⟨t287, A250, H⟩ := H
                    replace H : (if (t287 == t286) = true then ((topic_Match.f ((⟨#[120, 47]⟩ : ByteArray) ++ Sji3) ((⟨#[120, 47]⟩ : ByteArray) ++ Sji6)).bind fun t288 => (if (t288 == t286) = true then ((topic_Match.f ((⟨#[121, 47]⟩ : ByteArray) ++ Sji3) ((⟨#[120, 47]⟩ : ByteArray) ++ Sji6)).bind fun t289 => (if t289 = true then (some false) else ((topic_Covers.f ((⟨#[43, 47]⟩ : ByteArray) ++ Sji3) ((⟨#[120, 47]⟩ : ByteArray) ++ Sji3)).bind fun t290 => ((topic_Filter.f Sji3).bind fun t291 => (if (t290 == t291) = true then ((rivuletlaw03_fixed.f).bind fun t292 => (some t292)) else (some false)))))) else (some false))) else (some false)) = some r := H
                    have A25 := Aside0.mk A250
                    clear A250
                    by_cases c26 : (t287 == t286) = true
                    · rw [if_pos c26] at H
                      have c26b0 : (t287 == t286) = true := c26
                      (try (have c26b1 : decide (t287 = t286) = true := by simpa using c26))
                      (try (have c26b2 : (t287 == t286) = true := by simpa using c26))
                      clear c26
                      replace H := Option.bind_eq_some_iff.mp H
                      obtain ⟨t288, A270, H⟩ := H
                      replace H : (if (t288 == t286) = true then ((topic_Match.f ((⟨#[121, 47]⟩ : ByteArray) ++ Sji3) ((⟨#[120, 47]⟩ : ByteArray) ++ Sji6)).bind fun t289 => (if t289 = true then (some false) else ((topic_Covers.f ((⟨#[43, 47]⟩ : ByteArray) ++ Sji3) ((⟨#[120, 47]⟩ : ByteArray) ++ Sji3)).bind fun t290 => ((topic_Filter.f Sji3).bind fun t291 => (if (t290 == t291) = true then ((rivuletlaw03_fixed.f).bind fun t292 => (some t292)) else (some false)))))) else (some false)) = some r := H
                      have A27 := Aside0.mk A270
                      clear A270
                      by_cases c28 : (t288 == t286) = true
                      · rw [if_pos c28] at H
                        have c28b0 : (t288 == t286) = true := c28
                        (try (have c28b1 : decide (t288 = t286) = true := by simpa using c28))
                        (try (have c28b2 : (t288 == t286) = true := by simpa using c28))
                        clear c28
                        replace H := Option.bind_eq_some_iff.mp H
                        obtain ⟨t289, A290, H⟩ := H
                        replace H : (if t289 = true then (some false) else ((topic_Covers.f ((⟨#[43, 47]⟩ : ByteArray) ++ Sji3) ((⟨#[120, 47]⟩ : ByteArray) ++ Sji3)).bind fun t290 => ((topic_Filter.f Sji3).bind fun t291 => (if (t290 == t291) = true then ((rivuletlaw03_fixed.f).bind fun t292 => (some t292)) else (some false))))) = some r := H
                        have A29 := Aside0.mk A290
                        clear A290
                        by_cases c30 : t289 = true
                        · subst c30
                          have H1 : (some false) = some r := by rw [if_pos rfl] at H; exact H
                          clear H
                          have H := H1
                          clear H1
                          obtain rfl := Option.some.inj H
                          go_wp2_with (first | ((with_reducible refine gate_callee (f := 21) rfl ?_); refine goesL_ (some 29) rfl rfl Tryd.func21 (by kernel_rfl) rfl #[.string Sji3, .string Sji6] rfl (by (try simp only [List.map_toArray, List.map_cons, List.map_nil]); first | done | (simp only [hji3, hji6]; rfl) | rfl | (simp only [List.length_drop, List.length_take]; rfl)) ?_; (with_reducible refine (topic_Match.calls Sji3 Sji6 t286 _ A22.out).mono ?_); rintro e w31 ⟨rfl, hb⟩; refine ⟨_, rfl, ?_⟩; have n0_ := Aside0.mk (below_step (by repeat (first | (with_reducible first | exact HB.out | apply below_alloc | apply pw_below_drewN | apply below_drew1) | exact HB.out)) hb); clear HB; have HB := n0_; clear n0_; (try clear hb); (try clear hb2); (try clear hk); (try clear hi)) | ((with_reducible refine gate_callee (f := 21) rfl ?_); refine goesL_ (some 34) rfl rfl Tryd.func21 (by kernel_rfl) rfl #[.string ((⟨#[43, 47]⟩ : ByteArray) ++ Sji3), .string ((⟨#[120, 47]⟩ : ByteArray) ++ Sji6)] rfl (by (try simp only [List.map_toArray, List.map_cons, List.map_nil]); first | done | (simp only [hji3, hji6]; rfl) | rfl | (simp only [List.length_drop, List.length_take]; rfl)) ?_; (with_reducible refine (topic_Match.calls ((⟨#[43, 47]⟩ : ByteArray) ++ Sji3) ((⟨#[120, 47]⟩ : ByteArray) ++ Sji6) t287 _ A25.out).mono ?_); rintro e w32 ⟨rfl, hb⟩; refine ⟨_, rfl, ?_⟩; have n0_ := Aside0.mk (below_step (by repeat (first | (with_reducible first | exact HB.out | apply below_alloc | apply pw_below_drewN | apply below_drew1) | exact HB.out)) hb); clear HB; have HB := n0_; clear n0_; (try clear hb); (try clear hb2); (try clear hk); (try clear hi)) | (go_at_call 21; (with_reducible refine (topic_Match.calls ((⟨#[120, 47]⟩ : ByteArray) ++ Sji3) ((⟨#[120, 47]⟩ : ByteArray) ++ Sji6) t288 _ A27.out).mono ?_); rintro e w33 ⟨rfl, hb⟩; have n0_ := Aside0.mk (below_step (by repeat (first | (with_reducible first | exact HB.out | apply below_alloc | apply pw_below_drewN | apply below_drew1) | exact HB.out)) hb); clear HB; have HB := n0_; clear n0_; (try clear hb); (try clear hb2); (try clear hk); (try clear hi)) | (go_at_call 21; (with_reducible refine (topic_Match.calls ((⟨#[121, 47]⟩ : ByteArray) ++ Sji3) ((⟨#[120, 47]⟩ : ByteArray) ++ Sji6) true _ A29.out).mono ?_); rintro e w34 ⟨rfl, hb⟩; have n0_ := Aside0.mk (below_step (by repeat (first | (with_reducible first | exact HB.out | apply below_alloc | apply pw_below_drewN | apply below_drew1) | exact HB.out)) hb); clear HB; have HB := n0_; clear n0_; (try clear hb); (try clear hb2); (try clear hk); (try clear hi)))
                          go_ret
                          exact ⟨by first | rfl | (simp [errW_none, errW_some] <;> rfl) | (simp only [← hji3, ← hji6]; first | rfl | (simp [errW_none, errW_some] <;> rfl)) | (simp [*, errW_none, errW_some] <;> rfl), by repeat (first | (with_reducible first | exact HB.out | apply below_alloc | apply pw_below_drewN | apply below_drew1) | exact HB.out)⟩
                        · replace c30 := Bool.eq_false_iff.mpr c30
                          subst c30
                          have H1 : ((topic_Covers.f ((⟨#[43, 47]⟩ : ByteArray) ++ Sji3) ((⟨#[120, 47]⟩ : ByteArray) ++ Sji3)).bind fun t290 => ((topic_Filter.f Sji3).bind fun t291 => (if (t290 == t291) = true then ((rivuletlaw03_fixed.f).bind fun t292 => (some t292)) else (some false)))) = some r := by rw [if_neg (show ¬ (false = true) by decide)] at H; exact H
                          clear H
                          have H := H1
                          clear H1
                          replace H := Option.bind_eq_some_iff.mp H
                          obtain ⟨t290, A350, H⟩ := H
                          replace H : ((topic_Filter.f Sji3).bind fun t291 => (if (t290 == t291) = true then ((rivuletlaw03_fixed.f).bind fun t292 => (some t292)) else (some false))) = some r := H
                          have A35 := Aside0.mk A350
                          clear A350
                          replace H := Option.bind_eq_some_iff.mp H
                          obtain ⟨t291, A360, H⟩ := H
                          replace H : (if (t290 == t291) = true then ((rivuletlaw03_fixed.f).bind fun t292 => (some t292)) else (some false)) = some r := H
                          have A36 := Aside0.mk A360
                          clear A360
                          by_cases c37 : (t290 == t291) = true
                          · rw [if_pos c37] at H
                            have c37b0 : (t290 == t291) = true := c37
                            (try (have c37b1 : decide (t290 = t291) = true := by simpa using c37))
                            (try (have c37b2 : (t290 == t291) = true := by simpa using c37))
                            clear c37
                            replace H := Option.bind_eq_some_iff.mp H
                            obtain ⟨t292, A380, H⟩ := H
                            replace H : (some t292) = some r := H
                            have A38 := Aside0.mk A380
                            clear A380
                            obtain rfl := Option.some.inj H
                            go_wp2_with (first | ((with_reducible refine gate_callee (f := 21) rfl ?_); refine goesL_ (some 29) rfl rfl Tryd.func21 (by kernel_rfl) rfl #[.string Sji3, .string Sji6] rfl (by (try simp only [List.map_toArray, List.map_cons, List.map_nil]); first | done | (simp only [hji3, hji6]; rfl) | rfl | (simp only [List.length_drop, List.length_take]; rfl)) ?_; (with_reducible refine (topic_Match.calls Sji3 Sji6 t286 _ A22.out).mono ?_); rintro e w39 ⟨rfl, hb⟩; refine ⟨_, rfl, ?_⟩; have n0_ := Aside0.mk (below_step (by repeat (first | (with_reducible first | exact HB.out | apply below_alloc | apply pw_below_drewN | apply below_drew1) | exact HB.out)) hb); clear HB; have HB := n0_; clear n0_; (try clear hb); (try clear hb2); (try clear hk); (try clear hi)) | ((with_reducible refine gate_callee (f := 21) rfl ?_); refine goesL_ (some 34) rfl rfl Tryd.func21 (by kernel_rfl) rfl #[.string ((⟨#[43, 47]⟩ : ByteArray) ++ Sji3), .string ((⟨#[120, 47]⟩ : ByteArray) ++ Sji6)] rfl (by (try simp only [List.map_toArray, List.map_cons, List.map_nil]); first | done | (simp only [hji3, hji6]; rfl) | rfl | (simp only [List.length_drop, List.length_take]; rfl)) ?_; (with_reducible refine (topic_Match.calls ((⟨#[43, 47]⟩ : ByteArray) ++ Sji3) ((⟨#[120, 47]⟩ : ByteArray) ++ Sji6) t287 _ A25.out).mono ?_); rintro e w40 ⟨rfl, hb⟩; refine ⟨_, rfl, ?_⟩; have n0_ := Aside0.mk (below_step (by repeat (first | (with_reducible first | exact HB.out | apply below_alloc | apply pw_below_drewN | apply below_drew1) | exact HB.out)) hb); clear HB; have HB := n0_; clear n0_; (try clear hb); (try clear hb2); (try clear hk); (try clear hi)) | (go_at_call 21; (with_reducible refine (topic_Match.calls ((⟨#[120, 47]⟩ : ByteArray) ++ Sji3) ((⟨#[120, 47]⟩ : ByteArray) ++ Sji6) t288 _ A27.out).mono ?_); rintro e w41 ⟨rfl, hb⟩; have n0_ := Aside0.mk (below_step (by repeat (first | (with_reducible first | exact HB.out | apply below_alloc | apply pw_below_drewN | apply below_drew1) | exact HB.out)) hb); clear HB; have HB := n0_; clear n0_; (try clear hb); (try clear hb2); (try clear hk); (try clear hi)) | (go_at_call 21; (with_reducible refine (topic_Match.calls ((⟨#[121, 47]⟩ : ByteArray) ++ Sji3) ((⟨#[120, 47]⟩ : ByteArray) ++ Sji6) false _ A29.out).mono ?_); rintro e w42 ⟨rfl, hb⟩; have n0_ := Aside0.mk (below_step (by repeat (first | (with_reducible first | exact HB.out | apply below_alloc | apply pw_below_drewN | apply below_drew1) | exact HB.out)) hb); clear HB; have HB := n0_; clear n0_; (try clear hb); (try clear hb2); (try clear hk); (try clear hi)) | (go_at_call 23; (with_reducible refine (topic_Covers.calls ((⟨#[43, 47]⟩ : ByteArray) ++ Sji3) ((⟨#[120, 47]⟩ : ByteArray) ++ Sji3) t290 _ A35.out).mono ?_); rintro e w43 ⟨rfl, hb⟩; have n0_ := Aside0.mk (below_step (by repeat (first | (with_reducible first | exact HB.out | apply below_alloc | apply pw_below_drewN | apply below_drew1) | exact HB.out)) hb); clear HB; have HB := n0_; clear n0_; (try clear hb); (try clear hb2); (try clear hk); (try clear hi)) | (go_at_call 13; (with_reducible refine (topic_Filter.calls Sji3 t291 _ A36.out).mono ?_); rintro e w44 ⟨rfl, hb⟩; have n0_ := Aside0.mk (below_step (by repeat (first | (with_reducible first | exact HB.out | apply below_alloc | apply pw_below_drewN | apply below_drew1) | exact HB.out)) hb); clear HB; have HB := n0_; clear n0_; (try clear hb); (try clear hb2); (try clear hk); (try clear hi)) | (go_at_call 20; (with_reducible refine (rivuletlaw03_fixed.calls  t292 _ A38.out).mono ?_); rintro e w45 ⟨rfl, hb⟩; have n0_ := Aside0.mk (below_step (by repeat (first | (with_reducible first | exact HB.out | apply below_alloc | apply pw_below_drewN | apply below_drew1) | exact HB.out)) hb); clear HB; have HB := n0_; clear n0_; (try clear hb); (try clear hb2); (try clear hk); (try clear hi)))
                            go_ret
                            exact ⟨by first | rfl | (simp [errW_none, errW_some] <;> rfl) | (simp only [← hji3, ← hji6]; first | rfl | (simp [errW_none, errW_some] <;> rfl)) | (simp [*, errW_none, errW_some] <;> rfl), by repeat (first | (with_reducible first | exact HB.out | apply below_alloc | apply pw_below_drewN | apply below_drew1) | exact HB.out)⟩
                          · rw [if_neg c37] at H
                            have c37b0 : (t290 == t291) = false := by simpa using c37
                            (try (have c37b1 : decide (t290 = t291) = false := by simpa using c37))
                            (try (have c37b2 : (t290 == t291) = false := by simpa using c37))
                            (try (have c37b3 : ¬ (t290 = t291) := by simpa using c37))
                            clear c37
                            obtain rfl := Option.some.inj H
                            go_wp2_with (first | ((with_reducible refine gate_callee (f := 21) rfl ?_); refine goesL_ (some 29) rfl rfl Tryd.func21 (by kernel_rfl) rfl #[.string Sji3, .string Sji6] rfl (by (try simp only [List.map_toArray, List.map_cons, List.map_nil]); first | done | (simp only [hji3, hji6]; rfl) | rfl | (simp only [List.length_drop, List.length_take]; rfl)) ?_; (with_reducible refine (topic_Match.calls Sji3 Sji6 t286 _ A22.out).mono ?_); rintro e w46 ⟨rfl, hb⟩; refine ⟨_, rfl, ?_⟩; have n0_ := Aside0.mk (below_step (by repeat (first | (with_reducible first | exact HB.out | apply below_alloc | apply pw_below_drewN | apply below_drew1) | exact HB.out)) hb); clear HB; have HB := n0_; clear n0_; (try clear hb); (try clear hb2); (try clear hk); (try clear hi)) | ((with_reducible refine gate_callee (f := 21) rfl ?_); refine goesL_ (some 34) rfl rfl Tryd.func21 (by kernel_rfl) rfl #[.string ((⟨#[43, 47]⟩ : ByteArray) ++ Sji3), .string ((⟨#[120, 47]⟩ : ByteArray) ++ Sji6)] rfl (by (try simp only [List.map_toArray, List.map_cons, List.map_nil]); first | done | (simp only [hji3, hji6]; rfl) | rfl | (simp only [List.length_drop, List.length_take]; rfl)) ?_; (with_reducible refine (topic_Match.calls ((⟨#[43, 47]⟩ : ByteArray) ++ Sji3) ((⟨#[120, 47]⟩ : ByteArray) ++ Sji6) t287 _ A25.out).mono ?_); rintro e w47 ⟨rfl, hb⟩; refine ⟨_, rfl, ?_⟩; have n0_ := Aside0.mk (below_step (by repeat (first | (with_reducible first | exact HB.out | apply below_alloc | apply pw_below_drewN | apply below_drew1) | exact HB.out)) hb); clear HB; have HB := n0_; clear n0_; (try clear hb); (try clear hb2); (try clear hk); (try clear hi)) | (go_at_call 21; (with_reducible refine (topic_Match.calls ((⟨#[120, 47]⟩ : ByteArray) ++ Sji3) ((⟨#[120, 47]⟩ : ByteArray) ++ Sji6) t288 _ A27.out).mono ?_); rintro e w48 ⟨rfl, hb⟩; have n0_ := Aside0.mk (below_step (by repeat (first | (with_reducible first | exact HB.out | apply below_alloc | apply pw_below_drewN | apply below_drew1) | exact HB.out)) hb); clear HB; have HB := n0_; clear n0_; (try clear hb); (try clear hb2); (try clear hk); (try clear hi)) | (go_at_call 21; (with_reducible refine (topic_Match.calls ((⟨#[121, 47]⟩ : ByteArray) ++ Sji3) ((⟨#[120, 47]⟩ : ByteArray) ++ Sji6) false _ A29.out).mono ?_); rintro e w49 ⟨rfl, hb⟩; have n0_ := Aside0.mk (below_step (by repeat (first | (with_reducible first | exact HB.out | apply below_alloc | apply pw_below_drewN | apply below_drew1) | exact HB.out)) hb); clear HB; have HB := n0_; clear n0_; (try clear hb); (try clear hb2); (try clear hk); (try clear hi)) | (go_at_call 23; (with_reducible refine (topic_Covers.calls ((⟨#[43, 47]⟩ : ByteArray) ++ Sji3) ((⟨#[120, 47]⟩ : ByteArray) ++ Sji3) t290 _ A35.out).mono ?_); rintro e w50 ⟨rfl, hb⟩; have n0_ := Aside0.mk (below_step (by repeat (first | (with_reducible first | exact HB.out | apply below_alloc | apply pw_below_drewN | apply below_drew1) | exact HB.out)) hb); clear HB; have HB := n0_; clear n0_; (try clear hb); (try clear hb2); (try clear hk); (try clear hi)) | (go_at_call 13; (with_reducible refine (topic_Filter.calls Sji3 t291 _ A36.out).mono ?_); rintro e w51 ⟨rfl, hb⟩; have n0_ := Aside0.mk (below_step (by repeat (first | (with_reducible first | exact HB.out | apply below_alloc | apply pw_below_drewN | apply below_drew1) | exact HB.out)) hb); clear HB; have HB := n0_; clear n0_; (try clear hb); (try clear hb2); (try clear hk); (try clear hi)))
                            go_ret
                            exact ⟨by first | rfl | (simp [errW_none, errW_some] <;> rfl) | (simp only [← hji3, ← hji6]; first | rfl | (simp [errW_none, errW_some] <;> rfl)) | (simp [*, errW_none, errW_some] <;> rfl), by repeat (first | (with_reducible first | exact HB.out | apply below_alloc | apply pw_below_drewN | apply below_drew1) | exact HB.out)⟩
                      · rw [if_neg c28] at H
                        have c28b0 : (t288 == t286) = false := by simpa using c28
                        (try (have c28b1 : decide (t288 = t286) = false := by simpa using c28))
                        (try (have c28b2 : (t288 == t286) = false := by simpa using c28))
                        (try (have c28b3 : ¬ (t288 = t286) := by simpa using c28))
                        clear c28
                        obtain rfl := Option.some.inj H
                        go_wp2_with (first | ((with_reducible refine gate_callee (f := 21) rfl ?_); refine goesL_ (some 29) rfl rfl Tryd.func21 (by kernel_rfl) rfl #[.string Sji3, .string Sji6] rfl (by (try simp only [List.map_toArray, List.map_cons, List.map_nil]); first | done | (simp only [hji3, hji6]; rfl) | rfl | (simp only [List.length_drop, List.length_take]; rfl)) ?_; (with_reducible refine (topic_Match.calls Sji3 Sji6 t286 _ A22.out).mono ?_); rintro e w52 ⟨rfl, hb⟩; refine ⟨_, rfl, ?_⟩; have n0_ := Aside0.mk (below_step (by repeat (first | (with_reducible first | exact HB.out | apply below_alloc | apply pw_below_drewN | apply below_drew1) | exact HB.out)) hb); clear HB; have HB := n0_; clear n0_; (try clear hb); (try clear hb2); (try clear hk); (try clear hi)) | ((with_reducible refine gate_callee (f := 21) rfl ?_); refine goesL_ (some 34) rfl rfl Tryd.func21 (by kernel_rfl) rfl #[.string ((⟨#[43, 47]⟩ : ByteArray) ++ Sji3), .string ((⟨#[120, 47]⟩ : ByteArray) ++ Sji6)] rfl (by (try simp only [List.map_toArray, List.map_cons, List.map_nil]); first | done | (simp only [hji3, hji6]; rfl) | rfl | (simp only [List.length_drop, List.length_take]; rfl)) ?_; (with_reducible refine (topic_Match.calls ((⟨#[43, 47]⟩ : ByteArray) ++ Sji3) ((⟨#[120, 47]⟩ : ByteArray) ++ Sji6) t287 _ A25.out).mono ?_); rintro e w53 ⟨rfl, hb⟩; refine ⟨_, rfl, ?_⟩; have n0_ := Aside0.mk (below_step (by repeat (first | (with_reducible first | exact HB.out | apply below_alloc | apply pw_below_drewN | apply below_drew1) | exact HB.out)) hb); clear HB; have HB := n0_; clear n0_; (try clear hb); (try clear hb2); (try clear hk); (try clear hi)) | (go_at_call 21; (with_reducible refine (topic_Match.calls ((⟨#[120, 47]⟩ : ByteArray) ++ Sji3) ((⟨#[120, 47]⟩ : ByteArray) ++ Sji6) t288 _ A27.out).mono ?_); rintro e w54 ⟨rfl, hb⟩; have n0_ := Aside0.mk (below_step (by repeat (first | (with_reducible first | exact HB.out | apply below_alloc | apply pw_below_drewN | apply below_drew1) | exact HB.out)) hb); clear HB; have HB := n0_; clear n0_; (try clear hb); (try clear hb2); (try clear hk); (try clear hi)))
                        go_ret
                        exact ⟨by first | rfl | (simp [errW_none, errW_some] <;> rfl) | (simp only [← hji3, ← hji6]; first | rfl | (simp [errW_none, errW_some] <;> rfl)) | (simp [*, errW_none, errW_some] <;> rfl), by repeat (first | (with_reducible first | exact HB.out | apply below_alloc | apply pw_below_drewN | apply below_drew1) | exact HB.out)⟩
                    · rw [if_neg c26] at H
                      have c26b0 : (t287 == t286) = false := by simpa using c26
                      (try (have c26b1 : decide (t287 = t286) = false := by simpa using c26))
                      (try (have c26b2 : (t287 == t286) = false := by simpa using c26))
                      (try (have c26b3 : ¬ (t287 = t286) := by simpa using c26))
                      clear c26
                      obtain rfl := Option.some.inj H
                      go_wp2_with (first | ((with_reducible refine gate_callee (f := 21) rfl ?_); refine goesL_ (some 29) rfl rfl Tryd.func21 (by kernel_rfl) rfl #[.string Sji3, .string Sji6] rfl (by (try simp only [List.map_toArray, List.map_cons, List.map_nil]); first | done | (simp only [hji3, hji6]; rfl) | rfl | (simp only [List.length_drop, List.length_take]; rfl)) ?_; (with_reducible refine (topic_Match.calls Sji3 Sji6 t286 _ A22.out).mono ?_); rintro e w55 ⟨rfl, hb⟩; refine ⟨_, rfl, ?_⟩; have n0_ := Aside0.mk (below_step (by repeat (first | (with_reducible first | exact HB.out | apply below_alloc | apply pw_below_drewN | apply below_drew1) | exact HB.out)) hb); clear HB; have HB := n0_; clear n0_; (try clear hb); (try clear hb2); (try clear hk); (try clear hi)) | ((with_reducible refine gate_callee (f := 21) rfl ?_); refine goesL_ (some 34) rfl rfl Tryd.func21 (by kernel_rfl) rfl #[.string ((⟨#[43, 47]⟩ : ByteArray) ++ Sji3), .string ((⟨#[120, 47]⟩ : ByteArray) ++ Sji6)] rfl (by (try simp only [List.map_toArray, List.map_cons, List.map_nil]); first | done | (simp only [hji3, hji6]; rfl) | rfl | (simp only [List.length_drop, List.length_take]; rfl)) ?_; (with_reducible refine (topic_Match.calls ((⟨#[43, 47]⟩ : ByteArray) ++ Sji3) ((⟨#[120, 47]⟩ : ByteArray) ++ Sji6) t287 _ A25.out).mono ?_); rintro e w56 ⟨rfl, hb⟩; refine ⟨_, rfl, ?_⟩; have n0_ := Aside0.mk (below_step (by repeat (first | (with_reducible first | exact HB.out | apply below_alloc | apply pw_below_drewN | apply below_drew1) | exact HB.out)) hb); clear HB; have HB := n0_; clear n0_; (try clear hb); (try clear hb2); (try clear hk); (try clear hi)))
                      go_ret
                      exact ⟨by first | rfl | (simp [errW_none, errW_some] <;> rfl) | (simp only [← hji3, ← hji6]; first | rfl | (simp [errW_none, errW_some] <;> rfl)) | (simp [*, errW_none, errW_some] <;> rfl), by repeat (first | (with_reducible first | exact HB.out | apply below_alloc | apply pw_below_drewN | apply below_drew1) | exact HB.out)⟩
                  · rw [if_neg c24] at H
                    exact absurd H (by simp)
                · rw [if_neg c23] at H
                  exact absurd H (by simp)
        · rw [if_neg c8] at H
          exact absurd H (by simp)
      · rw [if_neg c7] at H
        exact absurd H (by simp)
    · rw [if_neg c5] at H
      exact absurd H (by simp)
  · rw [if_neg c4] at H
    exact absurd H (by simp)

/-- THE ONE PURE STATEMENT of rivuletlaw03_TopicWider: yours. -/
def rivuletlaw03_TopicWider.Pure : Prop := ∀ (a0 : ByteArray) (a1 : ByteArray), a0.size ≤ 140737488351232 → a1.size ≤ 140737488351232 → ∃ k, rivuletlaw03_TopicWider.f k a0 a1 = some true
theorem rivuletlaw03_TopicWider.walk (P : rivuletlaw03_TopicWider.Pure) (a0 : ByteArray) (a1 : ByteArray) (w : World) (w0 : a0.size ≤ 140737488351232) (w1 : a1.size ≤ 140737488351232) :
    Calls Tryd.prog 9 #[.string a0, .string a1] w fun e w' => e = .returned (.bool true) ∧ Below w.heap.size w w' := by
  obtain ⟨k, h⟩ := P a0 a1 w0 w1
  refine (rivuletlaw03_TopicWider.calls k a0 a1 true w h).mono ?_
  rintro e w' ⟨rfl, hd⟩
  exact ⟨rfl, hd⟩

end Go.Proofs.YtfakimleoihfgaaDoor.Pr
