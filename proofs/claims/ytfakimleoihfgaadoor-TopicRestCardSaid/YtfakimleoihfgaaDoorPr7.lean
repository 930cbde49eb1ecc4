-- Printed by this session's changed copy of the kit's printer (wip/tools/mkprint.py; some functions are given by hand). Lean checks it.
import Derived.Test.YtfakimleoihfgaaDoorPr0
import Derived.Test.YtfakimleoihfgaaDoorPr4
namespace Go.Proofs.YtfakimleoihfgaaDoor.Pr
open Go.RowKit Go.Proofs.YtfakimleoihfgaaDoorW.PrintWords Go.Proofs.YtfakimleoihfgaaDoorW.PrintLast Go.Proofs.YtfakimleoihfgaaDoorW.PrintMore
attribute [local go_sem] max2_int min2_int max_two min_two max_three min_three max_four min_four   -- for this text's walks alone
set_option linter.unusedVariables false
set_option linter.unusedSimpArgs false

/-! ### rivuletlaw03_fresh: function 27 -/
mutual
def rivuletlaw03_fresh.l0 : Nat → List ByteArray → Bool → ByteArray → Int → Option (ByteArray × Bool)
  | 0, _, _, _, _ => none
  | k + 1, x6, x7, x8, x9 => if x9 < (x6.length : Int) then (rivuletlaw03_fresh.j1 k x6 x7 x8 x9 x7) else (rivuletlaw03_fresh.j1 k x6 x7 x8 x9 false)
def rivuletlaw03_fresh.j1 : Nat → List ByteArray → Bool → ByteArray → Int → Bool → Option (ByteArray × Bool)
  | 0, _, _, _, _, _ => none
  | k + 1, x6, x7, x8, x9, x22 => if x22 = true then (if x9 > 0 then (if x8.size + 1 ≤ 9223372036854775807 then (if 0 ≤ x9 then (if x9 < (x6.length : Int) then (if (rdOf ByteArray.empty x6 x9).toList = ([43] : List UInt8) then (if (x8 ++ (⟨#[47]⟩ : ByteArray)).size + 12 ≤ 9223372036854775807 then (rivuletlaw03_fresh.l0 k x6 x7 ((x8 ++ (⟨#[47]⟩ : ByteArray)) ++ (⟨#[122, 122, 95, 57, 45, 122, 122, 95, 57, 45, 122, 122]⟩ : ByteArray)) (wrap64 (x9 + 1))) else (none)) else (if (x8 ++ (⟨#[47]⟩ : ByteArray)).size + (rdOf ByteArray.empty x6 x9).size ≤ 9223372036854775807 then (rivuletlaw03_fresh.l0 k x6 x7 ((x8 ++ (⟨#[47]⟩ : ByteArray)) ++ (rdOf ByteArray.empty x6 x9)) (wrap64 (x9 + 1))) else (none))) else (none)) else (none)) else (none)) else (if 0 ≤ x9 then (if x9 < (x6.length : Int) then (if (rdOf ByteArray.empty x6 x9).toList = ([43] : List UInt8) then (if x8.size + 12 ≤ 9223372036854775807 then (rivuletlaw03_fresh.l0 k x6 x7 (x8 ++ (⟨#[122, 122, 95, 57, 45, 122, 122, 95, 57, 45, 122, 122]⟩ : ByteArray)) (wrap64 (x9 + 1))) else (none)) else (if x8.size + (rdOf ByteArray.empty x6 x9).size ≤ 9223372036854775807 then (rivuletlaw03_fresh.l0 k x6 x7 (x8 ++ (rdOf ByteArray.empty x6 x9)) (wrap64 (x9 + 1))) else (none))) else (none)) else (none))) else (some (x8, x7))
end
def rivuletlaw03_fresh.f (k : Nat) (a0 : ByteArray) (a1 : Int) : Option (ByteArray × Bool) := (rivuletref03_Row.f k a0 a1).bind fun bt212 => (rivuletlaw03_fresh.l0 k bt212.1 bt212.2 (⟨#[]⟩ : ByteArray) 0)
theorem rivuletlaw03_fresh.mono_l : ∀ k, (∀ y0 y1 y2 y3, LeO (rivuletlaw03_fresh.l0 k y0 y1 y2 y3) (rivuletlaw03_fresh.l0 (k + 1) y0 y1 y2 y3)) ∧ (∀ y0 y1 y2 y3 y4, LeO (rivuletlaw03_fresh.j1 k y0 y1 y2 y3 y4) (rivuletlaw03_fresh.j1 (k + 1) y0 y1 y2 y3 y4))
  | 0 => ⟨fun _ _ _ _ r h => by simp [rivuletlaw03_fresh.l0] at h, fun _ _ _ _ _ r h => by simp [rivuletlaw03_fresh.j1] at h⟩
  | k + 1 => by
    obtain ⟨ih0, ih1⟩ := rivuletlaw03_fresh.mono_l k
    refine ⟨?_, ?_⟩
    · intro y0 y1 y2 y3
      unfold rivuletlaw03_fresh.l0
      repeat' first
      | (with_reducible exact ih0 _ _ _ _)
      | (with_reducible exact ih1 _ _ _ _ _)
      | (with_reducible exact rivuletref03_Row.mono _ _ _)
      | (with_reducible exact LeO.refl _)
      | (with_reducible exact LeO.none _)
      | (with_reducible refine LeO.ite ?_ ?_)
      | (with_reducible refine LeO.bind ?_ (fun _ => ?_))
      | exact ih0 _ _ _ _
      | exact ih1 _ _ _ _ _
      | exact rivuletref03_Row.mono _ _ _
      | exact LeO.none _
      | refine LeO.ite ?_ ?_
      | refine LeO.bind ?_ (fun _ => ?_)
    · intro y0 y1 y2 y3 y4
      unfold rivuletlaw03_fresh.j1
      repeat' first
      | (with_reducible exact ih0 _ _ _ _)
      | (with_reducible exact ih1 _ _ _ _ _)
      | (with_reducible exact rivuletref03_Row.mono _ _ _)
      | (with_reducible exact LeO.refl _)
      | (with_reducible exact LeO.none _)
      | (with_reducible refine LeO.ite ?_ ?_)
      | (with_reducible refine LeO.bind ?_ (fun _ => ?_))
      | exact ih0 _ _ _ _
      | exact ih1 _ _ _ _ _
      | exact rivuletref03_Row.mono _ _ _
      | exact LeO.none _
      | refine LeO.ite ?_ ?_
      | refine LeO.bind ?_ (fun _ => ?_)
theorem rivuletlaw03_fresh.mono : ∀ a0 a1 k, LeO (rivuletlaw03_fresh.f k a0 a1) (rivuletlaw03_fresh.f (k + 1) a0 a1) := by
  intro a0 a1 k
  obtain ⟨ih0, ih1⟩ := rivuletlaw03_fresh.mono_l k
  unfold rivuletlaw03_fresh.f
  repeat' first
      | (with_reducible exact ih0 _ _ _ _)
      | (with_reducible exact ih1 _ _ _ _ _)
      | (with_reducible exact rivuletref03_Row.mono _ _ _)
      | (with_reducible exact LeO.refl _)
      | (with_reducible exact LeO.none _)
      | (with_reducible refine LeO.ite ?_ ?_)
      | (with_reducible refine LeO.bind ?_ (fun _ => ?_))
      | exact ih0 _ _ _ _
      | exact ih1 _ _ _ _ _
      | exact rivuletref03_Row.mono _ _ _
      | exact LeO.none _
      | refine LeO.ite ?_ ?_
      | refine LeO.bind ?_ (fun _ => ?_)
set_option maxHeartbeats 8000000 in
set_option maxRecDepth 100000 in
theorem rivuletlaw03_fresh.calls (k : Nat) (a0 : ByteArray) (a1 : Int) (r1 : ByteArray) (r2 : Bool) (w : World) (h : rivuletlaw03_fresh.f k a0 a1 = some (r1, r2)) :
    Calls Tryd.prog 27 #[.string a0, .int .i64 a1] w fun e w' => e = .returned (.tuple #[.string r1, .bool r2]) ∧ Below w.heap.size w w' := by
  have HB := Aside0.mk (Below.refl w.heap.size w)
  have H : ((rivuletref03_Row.f k a0 a1).bind fun bt212 => (rivuletlaw03_fresh.l0 k bt212.1 bt212.2 (⟨#[]⟩ : ByteArray) 0)) = some (r1, r2) := h
  clear h
  replace H := Option.bind_eq_some_iff.mp H
  obtain ⟨⟨t212, t213⟩, A30, H⟩ := H
  replace H : (rivuletlaw03_fresh.l0 k t212 t213 (⟨#[]⟩ : ByteArray) 0) = some (r1, r2) := H
  have A3 := Aside0.mk A30
  clear A30
  have H' := Aside0.mk H
  clear H
  go_enter Tryd.func27, Tryd.ntmps27
  go_wp2_with (first | ((with_reducible refine gate_callee (f := 35) rfl ?_); refine goesL_ (some 13) rfl rfl Tryd.func35 (by kernel_rfl) rfl #[.string a0, .int .i64 a1] rfl (by (try simp only [List.map_toArray, List.map_cons, List.map_nil]); first | done | rfl | (simp only [List.length_drop, List.length_take]; rfl)) ?_; (with_reducible refine (rivuletref03_Row.calls k a0 a1 t212 t213 _ A3.out).mono ?_); rintro e w4 ⟨v214, rfl, ho0, hb⟩; refine ⟨_, rfl, ?_⟩; have n0_ := Aside0.mk (Kd.R_lower ho0 (below_size (by repeat (first | (with_reducible first | exact HB.out | apply below_alloc | apply pw_below_drewN | apply below_drew1) | exact HB.out)))); have n1_ := Aside0.mk (below_step (by repeat (first | (with_reducible first | exact HB.out | apply below_alloc | apply pw_below_drewN | apply below_drew1) | exact HB.out)) hb); clear HB; have HO215 := n0_; have HB := n1_; clear n0_ n1_; (try clear hb); (try clear hb2); (try clear hk); (try clear hi); (try clear ho0)))
  go_loopg [8, 9] k (fun kq v8 v9 w' => ∃ (x8_1 : ByteArray) (x9_1 : Int), v8 = .string x8_1 ∧ v9 = .int .i64 x9_1 ∧ Aside0 (rivuletlaw03_fresh.l0 kq t212 t213 x8_1 x9_1 = some (r1, r2)) ∧ Aside0 (kq ≤ k) ∧ Aside0 (Kd.R Kd.string 9 w' w.heap.size (fun _ => True) v214 t212) ∧ Aside0 (Below w.heap.size w w'))
  case atStart => exact ⟨((⟨#[]⟩ : ByteArray)), (0), (by first | rfl | (simp; done) | (simp [*]; done)), (by first | rfl | (simp; done) | (simp [*]; done)), H', ⟨Nat.le_refl _⟩, ⟨by (with_reducible repeat (first | apply Kd.R_alloc | apply Kd.R_drewN | apply Kd.R_drew)); exact HO215.out⟩, ⟨by repeat (first | (with_reducible first | exact HB.out | apply below_alloc | apply pw_below_drewN | apply below_drew1) | exact HB.out)⟩⟩
  case round =>
    clear H'
    try clear c2
    try clear p2
    try clear c3
    obtain ⟨x8_1, x9_1, rfl, rfl, HA, HK1, HO_6, HB⟩ := hrel
    cases gk with
    | zero => exact absurd HA.out (by simp [rivuletlaw03_fresh.l0])
    | succ k1 =>
      have H := HA.out
      clear HA
      simp only [rivuletlaw03_fresh.l0] at H
      have HC5 := Aside0.mk H
      clear H
      go_upto_region 4 with (fail)
      go_cut [22] (fun v22 wc => ∃ (kq : Nat) (x22_4 : Bool), v22 = .bool x22_4 ∧ Aside0 (rivuletlaw03_fresh.j1 kq t212 t213 x8_1 x9_1 x22_4 = some (r1, r2)) ∧ Aside0 (kq ≤ k1) ∧ Aside0 (Kd.R Kd.string 9 wc w.heap.size (fun _ => True) v214 t212) ∧ Aside0 (Below w.heap.size w wc))
      case first =>
        have H := HC5.out
        clear HC5
        by_cases c6 : x9_1 < (t212.length : Int)
        · rw [if_pos c6] at H
          have c6b0 : decide (x9_1 < (t212.length : Int)) = true := decide_eq_true c6
          clear c6
          (first | rw [c6b0] | (simp only [i64_w, i32_w]; rw [c6b0]) | skip)
          have H' := Aside0.mk H
          clear H
          obtain ⟨Ao7, co7, eo7⟩ := Kd.R_slice HO_6.out
          subst eo7
          go_wp2
          go_meet
          case rel => exact ⟨_, (t213), (by first | rfl | (simp; done) | (simp [*]; done)), H', ⟨by have := HK1.out; first | omega | exact Nat.le_refl _⟩, ⟨by (with_reducible repeat (first | apply Kd.R_alloc | apply Kd.R_drewN | apply Kd.R_drew)); exact HO_6.out⟩, ⟨by repeat (first | (with_reducible first | exact HB.out | apply below_alloc | apply pw_below_drewN | apply below_drew1) | exact HB.out)⟩⟩
        · rw [if_neg c6] at H
          have c6b0 : decide (x9_1 < (t212.length : Int)) = false := decide_eq_false c6
          clear c6
          (first | rw [c6b0] | (simp only [i64_w, i32_w]; rw [c6b0]) | skip)
          have H' := Aside0.mk H
          clear H
          obtain ⟨Ao8, co8, eo8⟩ := Kd.R_slice HO_6.out
          subst eo8
          go_wp2
          go_meet
          case rel => exact ⟨_, (false), (by first | rfl | (simp; done) | (simp [*]; done)), H', ⟨by have := HK1.out; first | omega | exact Nat.le_refl _⟩, ⟨by (with_reducible repeat (first | apply Kd.R_alloc | apply Kd.R_drewN | apply Kd.R_drew)); exact HO_6.out⟩, ⟨by repeat (first | (with_reducible first | exact HB.out | apply below_alloc | apply pw_below_drewN | apply below_drew1) | exact HB.out)⟩⟩
      case rest =>
        clear HC5
        try clear c2
        try clear p2
        try clear c3
        try clear c6
        try clear c6b0
        try clear p2
        obtain ⟨kq, x22_4, rfl, HA, HJ4, HO_6, HB⟩ := hcut
        cases kq with
        | zero => exact absurd HA.out (by simp [rivuletlaw03_fresh.j1])
        | succ kj4 =>
          have H := HA.out
          clear HA
          simp only [rivuletlaw03_fresh.j1] at H
          by_cases c9 : x22_4 = true
          · subst c9
            have H1 : (if x9_1 > 0 then (if x8_1.size + 1 ≤ 9223372036854775807 then (if 0 ≤ x9_1 then (if x9_1 < (t212.length : Int) then (if (rdOf ByteArray.empty t212 x9_1).toList = ([43] : List UInt8) then (if (x8_1 ++ (⟨#[47]⟩ : ByteArray)).size + 12 ≤ 9223372036854775807 then (rivuletlaw03_fresh.l0 kj4 t212 t213 ((x8_1 ++ (⟨#[47]⟩ : ByteArray)) ++ (⟨#[122, 122, 95, 57, 45, 122, 122, 95, 57, 45, 122, 122]⟩ : ByteArray)) (wrap64 (x9_1 + 1))) else (none)) else (if (x8_1 ++ (⟨#[47]⟩ : ByteArray)).size + (rdOf ByteArray.empty t212 x9_1).size ≤ 9223372036854775807 then (rivuletlaw03_fresh.l0 kj4 t212 t213 ((x8_1 ++ (⟨#[47]⟩ : ByteArray)) ++ (rdOf ByteArray.empty t212 x9_1)) (wrap64 (x9_1 + 1))) else (none))) else (none)) else (none)) else (none)) else (if 0 ≤ x9_1 then (if x9_1 < (t212.length : Int) then (if (rdOf ByteArray.empty t212 x9_1).toList = ([43] : List UInt8) then (if x8_1.size + 12 ≤ 9223372036854775807 then (rivuletlaw03_fresh.l0 kj4 t212 t213 (x8_1 ++ (⟨#[122, 122, 95, 57, 45, 122, 122, 95, 57, 45, 122, 122]⟩ : ByteArray)) (wrap64 (x9_1 + 1))) else (none)) else (if x8_1.size + (rdOf ByteArray.empty t212 x9_1).size ≤ 9223372036854775807 then (rivuletlaw03_fresh.l0 kj4 t212 t213 (x8_1 ++ (rdOf ByteArray.empty t212 x9_1)) (wrap64 (x9_1 + 1))) else (none))) else (none)) else (none))) = some (r1, r2) := by rw [if_pos rfl] at H; exact H
            clear H
            have H := H1
            clear H1
            by_cases c10 : x9_1 > 0
            · rw [if_pos c10] at H
              have c10b0 : decide (0 < x9_1) = true := decide_eq_true c10
              clear c10
              by_cases c11 : x8_1.size + 1 ≤ 9223372036854775807
              · rw [if_pos c11] at H
                obtain ⟨Yx8_1, hYx8_1⟩ : ∃ S_ : ByteArray, x8_1 ++ (⟨#[47]⟩ : ByteArray) = S_ := ⟨_, rfl⟩
                simp only [hYx8_1] at H
                have c11b0 := eq_true c11
                have c11b1 : decide (x8_1.size + 1 ≤ 9223372036854775807) = true := decide_eq_true c11
                try have c11b2 : (9223372036854775807 < x8_1.size + 1) = False := eq_false (Nat.not_lt.2 c11)
                by_cases c12 : 0 ≤ x9_1
                · rw [if_pos c12] at H
                  have c12b0 : decide (0 ≤ x9_1) = true := decide_eq_true c12
                  clear c12
                  by_cases c13 : x9_1 < (t212.length : Int)
                  · rw [if_pos c13] at H
                    have c13b0 : decide (x9_1 < (t212.length : Int)) = true := decide_eq_true c13
                    clear c13
                    by_cases c14 : (rdOf ByteArray.empty t212 x9_1).toList = ([43] : List UInt8)
                    · rw [if_pos c14] at H
                      have c14b0 : ((rdOf ByteArray.empty t212 x9_1).toList == ([43] : List UInt8)) = true := beq_iff_eq.mpr c14
                      have c14b1 : ((rdOf ByteArray.empty t212 x9_1).toList != ([43] : List UInt8)) = false := bne_eq_false_iff_eq.mpr c14
                      clear c14
                      by_cases c15 : Yx8_1.size + 12 ≤ 9223372036854775807
                      · rw [if_pos c15] at H
                        have c15b0 := eq_true c15
                        have c15b1 : decide (Yx8_1.size + 12 ≤ 9223372036854775807) = true := decide_eq_true c15
                        try have c15b2 : (9223372036854775807 < Yx8_1.size + 12) = False := eq_false (Nat.not_lt.2 c15)
                        have H' := Aside0.mk H
                        clear H
                        obtain ⟨Ao16, co16, eo16⟩ := Kd.R_slice HO_6.out
                        subst eo16
                        have p216 : 0 ≤ (x9_1 : Int) := of_decide_eq_true (by first | (with_reducible assumption) | assumption)
                        have q216 : x9_1 < (t212.length : Int) := of_decide_eq_true (by first | (with_reducible assumption) | assumption)
                        obtain ⟨ad216, e216, hx216_0⟩ := Kd.at_string (Kd.R_reads' HO_6.out).2.2 x9_1 p216 q216
                        cases e216
                        replace p216 := eq_true p216
                        replace q216 := eq_true q216
                        go_wp2
                        go_roundg kj4
                        case measure => have := HK1.out; have := HJ4.out; omega
                        case rel => exact ⟨(Yx8_1 ++ (⟨#[122, 122, 95, 57, 45, 122, 122, 95, 57, 45, 122, 122]⟩ : ByteArray)), (wrap64 (x9_1 + 1)), (by first | rfl | (simp; done) | (simp [*]; done)), (by first | rfl | (simp; done) | (simp [*]; done)), H', ⟨by have := HK1.out; have := HJ4.out; omega⟩, ⟨by (with_reducible repeat (first | apply Kd.R_alloc | apply Kd.R_drewN | apply Kd.R_drew)); exact HO_6.out⟩, ⟨by repeat (first | (with_reducible first | exact HB.out | apply below_alloc | apply pw_below_drewN | apply below_drew1) | exact HB.out)⟩⟩
                      · rw [if_neg c15] at H
                        exact absurd H (by simp)
                    · rw [if_neg c14] at H
                      have c14b0 : ((rdOf ByteArray.empty t212 x9_1).toList == ([43] : List UInt8)) = false := beq_eq_false_iff_ne.mpr c14
                      have c14b1 : ((rdOf ByteArray.empty t212 x9_1).toList != ([43] : List UInt8)) = true := bne_iff_ne.mpr c14
                      by_cases c17 : Yx8_1.size + (rdOf ByteArray.empty t212 x9_1).size ≤ 9223372036854775807
                      · rw [if_pos c17] at H
                        have c17b0 := eq_true c17
                        have c17b1 : decide (Yx8_1.size + (rdOf ByteArray.empty t212 x9_1).size ≤ 9223372036854775807) = true := decide_eq_true c17
                        try have c17b2 : (9223372036854775807 < Yx8_1.size + (rdOf ByteArray.empty t212 x9_1).size) = False := eq_false (Nat.not_lt.2 c17)
                        have H' := Aside0.mk H
                        clear H
                        obtain ⟨Ao18, co18, eo18⟩ := Kd.R_slice HO_6.out
                        subst eo18
                        have p216 : 0 ≤ (x9_1 : Int) := of_decide_eq_true (by first | (with_reducible assumption) | assumption)
                        have q216 : x9_1 < (t212.length : Int) := of_decide_eq_true (by first | (with_reducible assumption) | assumption)
                        obtain ⟨ad216, e216, hx216_0⟩ := Kd.at_string (Kd.R_reads' HO_6.out).2.2 x9_1 p216 q216
                        cases e216
                        replace p216 := eq_true p216
                        replace q216 := eq_true q216
                        have p217 : 0 ≤ (x9_1 : Int) := of_decide_eq_true (by first | (with_reducible assumption) | assumption)
                        have q217 : x9_1 < (t212.length : Int) := of_decide_eq_true (by first | (with_reducible assumption) | assumption)
                        obtain ⟨ad217, e217, hx217_0⟩ := Kd.at_string (Kd.R_reads' HO_6.out).2.2 x9_1 p217 q217
                        obtain rfl : ad216 = ad217 := (by injection e217)
                        replace p217 := eq_true p217
                        replace q217 := eq_true q217
                        go_wp2
                        go_roundg kj4
                        case measure => have := HK1.out; have := HJ4.out; omega
                        case rel => exact ⟨(Yx8_1 ++ (rdOf ByteArray.empty t212 x9_1)), (wrap64 (x9_1 + 1)), (by first | rfl | (simp; done) | (simp [*]; done)), (by first | rfl | (simp; done) | (simp [*]; done)), H', ⟨by have := HK1.out; have := HJ4.out; omega⟩, ⟨by (with_reducible repeat (first | apply Kd.R_alloc | apply Kd.R_drewN | apply Kd.R_drew)); exact HO_6.out⟩, ⟨by repeat (first | (with_reducible first | exact HB.out | apply below_alloc | apply pw_below_drewN | apply below_drew1) | exact HB.out)⟩⟩
                      · rw [if_neg c17] at H
                        exact absurd H (by simp)
                  · rw [if_neg c13] at H
                    exact absurd H (by simp)
                · rw [if_neg c12] at H
                  exact absurd H (by simp)
              · rw [if_neg c11] at H
                exact absurd H (by simp)
            · rw [if_neg c10] at H
              have c10b0 : decide (0 < x9_1) = false := decide_eq_false c10
              clear c10
              by_cases c19 : 0 ≤ x9_1
              · rw [if_pos c19] at H
                have c19b0 : decide (0 ≤ x9_1) = true := decide_eq_true c19
                clear c19
                by_cases c20 : x9_1 < (t212.length : Int)
                · rw [if_pos c20] at H
                  have c20b0 : decide (x9_1 < (t212.length : Int)) = true := decide_eq_true c20
                  clear c20
                  by_cases c21 : (rdOf ByteArray.empty t212 x9_1).toList = ([43] : List UInt8)
                  · rw [if_pos c21] at H
                    have c21b0 : ((rdOf ByteArray.empty t212 x9_1).toList == ([43] : List UInt8)) = true := beq_iff_eq.mpr c21
                    have c21b1 : ((rdOf ByteArray.empty t212 x9_1).toList != ([43] : List UInt8)) = false := bne_eq_false_iff_eq.mpr c21
                    clear c21
                    by_cases c22 : x8_1.size + 12 ≤ 9223372036854775807
                    · rw [if_pos c22] at H
                      have c22b0 := eq_true c22
                      have c22b1 : decide (x8_1.size + 12 ≤ 9223372036854775807) = true := decide_eq_true c22
                      try have c22b2 : (9223372036854775807 < x8_1.size + 12) = False := eq_false (Nat.not_lt.2 c22)
                      have H' := Aside0.mk H
                      clear H
                      obtain ⟨Ao23, co23, eo23⟩ := Kd.R_slice HO_6.out
                      subst eo23
                      have p218 : 0 ≤ (x9_1 : Int) := of_decide_eq_true (by first | (with_reducible assumption) | assumption)
                      have q218 : x9_1 < (t212.length : Int) := of_decide_eq_true (by first | (with_reducible assumption) | assumption)
                      obtain ⟨ad218, e218, hx218_0⟩ := Kd.at_string (Kd.R_reads' HO_6.out).2.2 x9_1 p218 q218
                      cases e218
                      replace p218 := eq_true p218
                      replace q218 := eq_true q218
                      go_wp2
                      go_roundg kj4
                      case measure => have := HK1.out; have := HJ4.out; omega
                      case rel => exact ⟨(x8_1 ++ (⟨#[122, 122, 95, 57, 45, 122, 122, 95, 57, 45, 122, 122]⟩ : ByteArray)), (wrap64 (x9_1 + 1)), (by first | rfl | (simp; done) | (simp [*]; done)), (by first | rfl | (simp; done) | (simp [*]; done)), H', ⟨by have := HK1.out; have := HJ4.out; omega⟩, ⟨by (with_reducible repeat (first | apply Kd.R_alloc | apply Kd.R_drewN | apply Kd.R_drew)); exact HO_6.out⟩, ⟨by repeat (first | (with_reducible first | exact HB.out | apply below_alloc | apply pw_below_drewN | apply below_drew1) | exact HB.out)⟩⟩
                    · rw [if_neg c22] at H
                      exact absurd H (by simp)
                  · rw [if_neg c21] at H
                    have c21b0 : ((rdOf ByteArray.empty t212 x9_1).toList == ([43] : List UInt8)) = false := beq_eq_false_iff_ne.mpr c21
                    have c21b1 : ((rdOf ByteArray.empty t212 x9_1).toList != ([43] : List UInt8)) = true := bne_iff_ne.mpr c21
                    by_cases c24 : x8_1.size + (rdOf ByteArray.empty t212 x9_1).size ≤ 9223372036854775807
                    · rw [if_pos c24] at H
                      have c24b0 := eq_true c24
                      have c24b1 : decide (x8_1.size + (rdOf ByteArray.empty t212 x9_1).size ≤ 9223372036854775807) = true := decide_eq_true c24
                      try have c24b2 : (9223372036854775807 < x8_1.size + (rdOf ByteArray.empty t212 x9_1).size) = False := eq_false (Nat.not_lt.2 c24)
                      have H' := Aside0.mk H
                      clear H
                      obtain ⟨Ao25, co25, eo25⟩ := Kd.R_slice HO_6.out
                      subst eo25
                      have p218 : 0 ≤ (x9_1 : Int) := of_decide_eq_true (by first | (with_reducible assumption) | assumption)
                      have q218 : x9_1 < (t212.length : Int) := of_decide_eq_true (by first | (with_reducible assumption) | assumption)
                      obtain ⟨ad218, e218, hx218_0⟩ := Kd.at_string (Kd.R_reads' HO_6.out).2.2 x9_1 p218 q218
                      cases e218
                      replace p218 := eq_true p218
                      replace q218 := eq_true q218
                      have p219 : 0 ≤ (x9_1 : Int) := of_decide_eq_true (by first | (with_reducible assumption) | assumption)
                      have q219 : x9_1 < (t212.length : Int) := of_decide_eq_true (by first | (with_reducible assumption) | assumption)
                      obtain ⟨ad219, e219, hx219_0⟩ := Kd.at_string (Kd.R_reads' HO_6.out).2.2 x9_1 p219 q219
                      obtain rfl : ad218 = ad219 := (by injection e219)
                      replace p219 := eq_true p219
                      replace q219 := eq_true q219
                      go_wp2
                      go_roundg kj4
                      case measure => have := HK1.out; have := HJ4.out; omega
                      case rel => exact ⟨(x8_1 ++ (rdOf ByteArray.empty t212 x9_1)), (wrap64 (x9_1 + 1)), (by first | rfl | (simp; done) | (simp [*]; done)), (by first | rfl | (simp; done) | (simp [*]; done)), H', ⟨by have := HK1.out; have := HJ4.out; omega⟩, ⟨by (with_reducible repeat (first | apply Kd.R_alloc | apply Kd.R_drewN | apply Kd.R_drew)); exact HO_6.out⟩, ⟨by repeat (first | (with_reducible first | exact HB.out | apply below_alloc | apply pw_below_drewN | apply below_drew1) | exact HB.out)⟩⟩
                    · rw [if_neg c24] at H
                      exact absurd H (by simp)
                · rw [if_neg c20] at H
                  exact absurd H (by simp)
              · rw [if_neg c19] at H
                exact absurd H (by simp)
          · replace c9 := Bool.eq_false_iff.mpr c9
            subst c9
            have H1 : (some (x8_1, t213)) = some (r1, r2) := by rw [if_neg (show ¬ (false = true) by decide)] at H; exact H
            clear H
            have H := H1
            clear H1
            simp only [Option.some.injEq, Prod.mk.injEq] at H
            obtain ⟨rfl, rfl⟩ := H
            go_wp2
            go_ret2
            exact ⟨by first | rfl | (simp [errW_none, errW_some] <;> rfl) | (simp [*, errW_none, errW_some] <;> rfl), by repeat (first | (with_reducible first | exact HB.out | apply below_alloc | apply pw_below_drewN | apply below_drew1) | exact HB.out)⟩

end Go.Proofs.YtfakimleoihfgaaDoor.Pr
