import Derived.Test.YtjjimkmbbifbjaaDoorKGets13
section
namespace Go.Proofs.YtjjimkmbbifbjaaDoor.Pv
open Go.RowKit Go.Proofs.YtjjimkmbbifbjaaDoorW.PrintWords Go.Proofs.YtjjimkmbbifbjaaDoorW.PrintLast Go.Proofs.YtjjimkmbbifbjaaDoorW.PrintMore
attribute [local go_sem] max2_int min2_int max_two min_two max_three min_three max_four min_four
set_option linter.unusedVariables false
set_option linter.unusedSimpArgs false
mutual
def rivuletref01_Get.j0 : Nat → ByteArray → Int → Bool → Option (Int × Int × Int)
 | 0, _, _, _ => none
 | k + 1, x0, x1, x18 => if x18 = true then (some (0, 0, 1)) else (if x1 = (x0.size : Int) then (some (0, 0, 3)) else (if 0 ≤ x1 then (if x1 < (x0.size : Int) then (if (wrap64 (bt x0 x1)) > 240 then (rivuletref01_Get.j1 k x0 x1 (wrap64 (bt x0 x1)) 1) else (rivuletref01_Get.j1 k x0 x1 (wrap64 (bt x0 x1)) 0)) else (none)) else (none)))
def rivuletref01_Get.j1 : Nat → ByteArray → Int → Int → Int → Option (Int × Int × Int)
 | 0, _, _, _, _ => none
 | k + 1, x0, x1, x7, x8 => if x7 = 249 then (rivuletref01_Get.j2 k x0 x1 x7 2) else (rivuletref01_Get.j2 k x0 x1 x7 x8)
def rivuletref01_Get.j2 : Nat → ByteArray → Int → Int → Int → Option (Int × Int × Int)
 | 0, _, _, _, _ => none
 | k + 1, x0, x1, x7, x8 => if x7 > 249 then (rivuletref01_Get.j3 k x0 x1 x7 (wrap64 (x7 - 247))) else (rivuletref01_Get.j3 k x0 x1 x7 x8)
def rivuletref01_Get.j3 : Nat → ByteArray → Int → Int → Int → Option (Int × Int × Int)
 | 0, _, _, _, _ => none
 | k + 1, x0, x1, x7, x8 => if (wrap64 ((wrap64 ((x0.size : Int) - x1)) - 1)) < x8 then (some (0, 0, 3)) else (rivuletref01_Get.l0 k x0 x1 x7 x8 0 0)
def rivuletref01_Get.l0 : Nat → ByteArray → Int → Int → Int → Int → Int → Option (Int × Int × Int)
 | 0, _, _, _, _, _, _ => none
 | k + 1, x0, x1, x7, x8, x9, x10 => if x10 < x8 then (if 0 ≤ (wrap64 ((wrap64 (x1 + 1)) + x10)) then (if (wrap64 ((wrap64 (x1 + 1)) + x10)) < (x0.size : Int) then (rivuletref01_Get.l0 k x0 x1 x7 x8 (IntKind.u64.wrap ((IntKind.u64.wrap (256 * x9)) + (IntKind.u64.wrap (bt x0 (wrap64 ((wrap64 (x1 + 1)) + x10)))))) (wrap64 (x10 + 1))) else (none)) else (none)) else (if x8 = 0 then (rivuletref01_Get.j5 k x0 x1 x7 x8 (IntKind.u64.wrap (x7))) else (rivuletref01_Get.j5 k x0 x1 x7 x8 x9))
def rivuletref01_Get.j5 : Nat → ByteArray → Int → Int → Int → Int → Option (Int × Int × Int)
 | 0, _, _, _, _, _ => none
 | k + 1, x0, x1, x7, x8, x9 => if x8 = 1 then (rivuletref01_Get.j6 k x0 x1 x8 (IntKind.u64.wrap ((IntKind.u64.wrap (240 + (IntKind.u64.wrap (256 * (IntKind.u64.wrap (wrap64 (x7 - 241))))))) + x9))) else (rivuletref01_Get.j6 k x0 x1 x8 x9)
def rivuletref01_Get.j6 : Nat → ByteArray → Int → Int → Int → Option (Int × Int × Int)
 | 0, _, _, _, _ => none
 | k + 1, x0, x1, x8, x9 => if x8 = 2 then ((rivuletref01_Put.f k (IntKind.u64.wrap (2288 + x9))).bind fun t139 => (if 0 ≤ x1 then (if x1 ≤ (wrap64 ((wrap64 (x1 + 1)) + x8)) then (if (wrap64 ((wrap64 (x1 + 1)) + x8)) ≤ (x0.size : Int) then (if t139.toList = (x0.extract (x1 : Int).toNat ((wrap64 ((wrap64 (x1 + 1)) + x8)) : Int).toNat).toList then (some (IntKind.u64.wrap (2288 + x9), wrap64 ((wrap64 (x1 + 1)) + x8), 0)) else (some (0, 0, 4))) else (none)) else (none)) else (none))) else ((rivuletref01_Put.f k x9).bind fun t140 => (if 0 ≤ x1 then (if x1 ≤ (wrap64 ((wrap64 (x1 + 1)) + x8)) then (if (wrap64 ((wrap64 (x1 + 1)) + x8)) ≤ (x0.size : Int) then (if t140.toList = (x0.extract (x1 : Int).toNat ((wrap64 ((wrap64 (x1 + 1)) + x8)) : Int).toNat).toList then (some (x9, wrap64 ((wrap64 (x1 + 1)) + x8), 0)) else (some (0, 0, 4))) else (none)) else (none)) else (none)))
end
def rivuletref01_Get.f (k : Nat) (a0 : ByteArray) (a1 : Int) : Option (Int × Int × Int) := if a1 < 0 then (rivuletref01_Get.j0 k a0 a1 true) else (rivuletref01_Get.j0 k a0 a1 (decide (a1 > (a0.size : Int))))
def rivuletref01_Get.T25 : Bool × List (List Nat × List Nat) := (true, [([], []), ([0], [0]), ([], []), ([], []), ([], []), ([4], [4]), ([], []), ([5, 6], [5, 6]), ([2, 3, 7], [2, 3, 7]), ([1, 8], [1, 8])])
def rivuletref01_Get.B25 : List Nat := [0, 1, 0, 0, 0, 16, 0, 112, 252, 511]
theorem rivuletref01_Get.tab25 : rtab .any (opsOf Tryd.f54 25) = rivuletref01_Get.T25 := by kernel_rfl
theorem rivuletref01_Get.bits25 : waitsOk rivuletref01_Get.T25.2 rivuletref01_Get.B25 = true := by kernel_rfl
set_option maxHeartbeats 8000000 in
set_option maxRecDepth 100000 in
theorem rivuletref01_Get.calls (k : Nat) (a0 : ByteArray) (a1 : Int) (r1 : Int) (r2 : Int) (r3 : Int) (w : World) (h : rivuletref01_Get.f k a0 a1 = some (r1, r2, r3)) :
  Calls Tryd.prog 54 #[.string a0, .int .i64 a1] w fun e w' => e = .returned (.tuple #[.int .u64 r1, .int .i64 r2, .int .i64 r3]) ∧ Below w.heap.size w w' := by
 have HB := Aside0.mk (Below.refl w.heap.size w)
 have H : (if a1 < 0 then (rivuletref01_Get.j0 k a0 a1 true) else (rivuletref01_Get.j0 k a0 a1 (decide (a1 > (a0.size : Int))))) = some (r1, r2, r3) := h
 clear h
 have HC3 := Aside0.mk H
 clear H
 go_enter Tryd.func54, Tryd.ntmps54
 go_upto_region 1 with (fail)
 go_cut [18] (fun v18 wc => ∃ (kq : Nat) (x18_2 : Bool), v18 = .bool x18_2 ∧ Aside0 (rivuletref01_Get.j0 kq a0 a1 x18_2 = some (r1, r2, r3)) ∧ Aside0 (kq ≤ k) ∧ Aside0 (Below w.heap.size w wc))
 case first =>
  have H := HC3.out
  clear HC3
  by_cases c4 : a1 < 0
  ·rw [if_pos c4] at H
   have c4b0 : decide (a1 < 0) = true := decide_eq_true c4
   clear c4
   (first | rw [c4b0] | (simp only [i64_w, i32_w]; rw [c4b0]) | skip)
   have H' := Aside0.mk H
   clear H
   go_wp2
   go_meet
   case rel => exact ⟨_, (true), (by first | rfl | (simp; done) | (simp [*]; done)), H', ⟨by first | omega | exact Nat.le_refl _⟩, ⟨by repeat (first | (with_reducible first | exact HB.out | apply below_alloc | apply pw_below_drewN | apply below_drew1) | exact HB.out)⟩⟩
  ·rw [if_neg c4] at H
   have c4b0 : decide (a1 < 0) = false := decide_eq_false c4
   clear c4
   (first | rw [c4b0] | (simp only [i64_w, i32_w]; rw [c4b0]) | skip)
   have H' := Aside0.mk H
   clear H
   go_wp2
   go_meet
   case rel => exact ⟨_, (decide (a1 > (a0.size : Int))), (by first | rfl | (simp; done) | (simp [*]; done)), H', ⟨by first | omega | exact Nat.le_refl _⟩, ⟨by repeat (first | (with_reducible first | exact HB.out | apply below_alloc | apply pw_below_drewN | apply below_drew1) | exact HB.out)⟩⟩
 case rest =>
  clear HC3
  try clear p2
  try clear c4
  try clear c4b0
  obtain ⟨kq, x18_2, rfl, HA, HJ2, HB⟩ := hcut
  cases kq with
  | zero => exact absurd HA.out (by simp [rivuletref01_Get.j0])
  | succ kj2 =>
   have H := HA.out
   clear HA
   simp only [rivuletref01_Get.j0] at H
   by_cases c5 : x18_2 = true
   ·subst c5
    have H1 : (some (0, 0, 1)) = some (r1, r2, r3) := by rw [if_pos rfl] at H; exact H
    clear H
    have H := H1
    clear H1
    simp only [Option.some.injEq, Prod.mk.injEq] at H
    obtain ⟨rfl, rfl, rfl⟩ := H
    go_wp2
    go_ret3
    exact ⟨by first | rfl | (simp [errW_none, errW_some] <;> rfl) | (simp [*, errW_none, errW_some] <;> rfl), by repeat (first | (with_reducible first | exact HB.out | apply below_alloc | apply pw_below_drewN | apply below_drew1) | exact HB.out)⟩
   ·replace c5 := Bool.eq_false_iff.mpr c5
    subst c5
    have H1 : (if a1 = (a0.size : Int) then (some (0, 0, 3)) else (if 0 ≤ a1 then (if a1 < (a0.size : Int) then (if (wrap64 (bt a0 a1)) > 240 then (rivuletref01_Get.j1 kj2 a0 a1 (wrap64 (bt a0 a1)) 1) else (rivuletref01_Get.j1 kj2 a0 a1 (wrap64 (bt a0 a1)) 0)) else (none)) else (none))) = some (r1, r2, r3) := by rw [if_neg (show ¬ (false = true) by decide)] at H; exact H
    clear H
    have H := H1
    clear H1
    by_cases c6 : a1 = (a0.size : Int)
    ·rw [if_pos c6] at H
     have c6b0 : (a1 == (a0.size : Int)) = true := beq_iff_eq.mpr c6
     have c6b1 : (a1 != (a0.size : Int)) = false := bne_eq_false_iff_eq.mpr c6
     clear c6
     simp only [Option.some.injEq, Prod.mk.injEq] at H
     obtain ⟨rfl, rfl, rfl⟩ := H
     go_wp2
     go_ret3
     exact ⟨by first | rfl | (simp [errW_none, errW_some] <;> rfl) | (simp [*, errW_none, errW_some] <;> rfl), by repeat (first | (with_reducible first | exact HB.out | apply below_alloc | apply pw_below_drewN | apply below_drew1) | exact HB.out)⟩
    ·rw [if_neg c6] at H
     have c6b0 : (a1 == (a0.size : Int)) = false := beq_eq_false_iff_ne.mpr c6
     have c6b1 : (a1 != (a0.size : Int)) = true := bne_iff_ne.mpr c6
     by_cases c7 : 0 ≤ a1
     ·rw [if_pos c7] at H
      have c7b0 : decide (0 ≤ a1) = true := decide_eq_true c7
      clear c7
      by_cases c8 : a1 < (a0.size : Int)
      ·rw [if_pos c8] at H
       have c8b0 : decide (a1 < (a0.size : Int)) = true := decide_eq_true c8
       clear c8
       have HC10 := Aside0.mk H
       clear H
       have p9 : 0 ≤ (a1 : Int) := of_decide_eq_true (by first | (with_reducible assumption) | assumption)
       have q9 : a1 < (a0.size : Int) := of_decide_eq_true (by first | (with_reducible assumption) | assumption)
       have hx9 := bt_at a0 a1
       replace p9 := eq_true p9
       replace q9 := eq_true q9
       go_upto_if 28 with (fail)
       go_cut [8] (fun v8 wc => ∃ (kq : Nat) (x8_9 : Int), v8 = .int .i64 x8_9 ∧ Aside0 (rivuletref01_Get.j1 kq a0 a1 (wrap64 (bt a0 a1)) x8_9 = some (r1, r2, r3)) ∧ Aside0 (kq ≤ kj2) ∧ Aside0 (Below w.heap.size w wc))
       case first =>
        have H := HC10.out
        clear HC10
        by_cases c11 : (wrap64 (bt a0 a1)) > 240
        ·rw [if_pos c11] at H
         have c11b0 : decide (240 < (wrap64 (bt a0 a1))) = true := decide_eq_true c11
         clear c11
         (first | rw [c11b0] | (simp only [i64_w, i32_w]; rw [c11b0]) | skip)
         have H' := Aside0.mk H
         clear H
         go_wp2
         go_meet
         case rel => exact ⟨_, (1), (by first | rfl | (simp; done) | (simp [*]; done)), H', ⟨by have := HJ2.out; first | omega | exact Nat.le_refl _⟩, ⟨by repeat (first | (with_reducible first | exact HB.out | apply below_alloc | apply pw_below_drewN | apply below_drew1) | exact HB.out)⟩⟩
        ·rw [if_neg c11] at H
         have c11b0 : decide (240 < (wrap64 (bt a0 a1))) = false := decide_eq_false c11
         clear c11
         (first | rw [c11b0] | (simp only [i64_w, i32_w]; rw [c11b0]) | skip)
         have H' := Aside0.mk H
         clear H
         go_wp2
         go_meet
         case rel => exact ⟨_, (0), (by first | rfl | (simp; done) | (simp [*]; done)), H', ⟨by have := HJ2.out; first | omega | exact Nat.le_refl _⟩, ⟨by repeat (first | (with_reducible first | exact HB.out | apply below_alloc | apply pw_below_drewN | apply below_drew1) | exact HB.out)⟩⟩
       case rest =>
        clear HC10
        try clear c1
        try clear p2
        try clear c4
        try clear c4b0
        try clear c5
        try clear c6
        try clear c6b0
        try clear c6b1
        try clear p6
        try clear c7
        try clear c7b0
        try clear c8
        try clear c8b0
        try clear p9
        try clear q9
        try clear hx9
        try clear c11
        try clear c11b0
        try clear p2
        try clear p9
        try clear q9
        obtain ⟨kq, x8_9, rfl, HA, HJ9, HB⟩ := hcut
        cases kq with
        | zero => exact absurd HA.out (by simp [rivuletref01_Get.j1])
        | succ kj9 =>
         have H := HA.out
         clear HA
         simp only [rivuletref01_Get.j1] at H
         have HC12 := Aside0.mk H
         clear H
         go_upto_if 30 with (fail)
         go_cut [8] (fun v8 wc => ∃ (kq : Nat) (x8_11 : Int), v8 = .int .i64 x8_11 ∧ Aside0 (rivuletref01_Get.j2 kq a0 a1 (wrap64 (bt a0 a1)) x8_11 = some (r1, r2, r3)) ∧ Aside0 (kq ≤ kj9) ∧ Aside0 (Below w.heap.size w wc))
         case first =>
          have H := HC12.out
          clear HC12
          by_cases c13 : (wrap64 (bt a0 a1)) = 249
          ·rw [if_pos c13] at H
           have c13b0 : ((wrap64 (bt a0 a1)) == 249) = true := beq_iff_eq.mpr c13
           have c13b1 : ((wrap64 (bt a0 a1)) != 249) = false := bne_eq_false_iff_eq.mpr c13
           clear c13
           (first | rw [c13b0] | (simp only [i64_w, i32_w]; rw [c13b0]) | skip)
           have H' := Aside0.mk H
           clear H
           go_wp2
           go_meet
           case rel => exact ⟨_, (2), (by first | rfl | (simp; done) | (simp [*]; done)), H', ⟨by have := HJ2.out; have := HJ9.out; first | omega | exact Nat.le_refl _⟩, ⟨by repeat (first | (with_reducible first | exact HB.out | apply below_alloc | apply pw_below_drewN | apply below_drew1) | exact HB.out)⟩⟩
          ·rw [if_neg c13] at H
           have c13b0 : ((wrap64 (bt a0 a1)) == 249) = false := beq_eq_false_iff_ne.mpr c13
           have c13b1 : ((wrap64 (bt a0 a1)) != 249) = true := bne_iff_ne.mpr c13
           (first | rw [c13b0] | (simp only [i64_w, i32_w]; rw [c13b0]) | skip)
           have H' := Aside0.mk H
           clear H
           go_wp2
           go_meet
           case rel => exact ⟨_, (x8_9), (by first | rfl | (simp; done) | (simp [*]; done)), H', ⟨by have := HJ2.out; have := HJ9.out; first | omega | exact Nat.le_refl _⟩, ⟨by repeat (first | (with_reducible first | exact HB.out | apply below_alloc | apply pw_below_drewN | apply below_drew1) | exact HB.out)⟩⟩
         case rest =>
          clear HC12
          try clear c1
          try clear p2
          try clear c4
          try clear c4b0
          try clear c5
          try clear c6
          try clear c6b0
          try clear c6b1
          try clear p6
          try clear c7
          try clear c7b0
          try clear c8
          try clear c8b0
          try clear p9
          try clear q9
          try clear hx9
          try clear c11
          try clear c11b0
          try clear c13
          try clear c13b0
          try clear c13b1
          try clear p2
          try clear p6
          try clear p9
          try clear q9
          obtain ⟨kq, x8_11, rfl, HA, HJ11, HB⟩ := hcut
          cases kq with
          | zero => exact absurd HA.out (by simp [rivuletref01_Get.j2])
          | succ kj11 =>
           have H := HA.out
           clear HA
           simp only [rivuletref01_Get.j2] at H
           have HC14 := Aside0.mk H
           clear H
           go_upto_if 32 with (fail)
           go_cut [8] (fun v8 wc => ∃ (kq : Nat) (x8_13 : Int), v8 = .int .i64 x8_13 ∧ Aside0 (rivuletref01_Get.j3 kq a0 a1 (wrap64 (bt a0 a1)) x8_13 = some (r1, r2, r3)) ∧ Aside0 (kq ≤ kj11) ∧ Aside0 (Below w.heap.size w wc))
           case first =>
            have H := HC14.out
            clear HC14
            by_cases c15 : (wrap64 (bt a0 a1)) > 249
            ·rw [if_pos c15] at H
             have c15b0 : decide (249 < (wrap64 (bt a0 a1))) = true := decide_eq_true c15
             clear c15
             (first | rw [c15b0] | (simp only [i64_w, i32_w]; rw [c15b0]) | skip)
             have H' := Aside0.mk H
             clear H
             go_wp2
             go_meet
             case rel => exact ⟨_, (wrap64 ((wrap64 (bt a0 a1)) - 247)), (by first | rfl | (simp; done) | (simp [*]; done)), H', ⟨by have := HJ2.out; have := HJ9.out; have := HJ11.out; first | omega | exact Nat.le_refl _⟩, ⟨by repeat (first | (with_reducible first | exact HB.out | apply below_alloc | apply pw_below_drewN | apply below_drew1) | exact HB.out)⟩⟩
            ·rw [if_neg c15] at H
             have c15b0 : decide (249 < (wrap64 (bt a0 a1))) = false := decide_eq_false c15
             clear c15
             (first | rw [c15b0] | (simp only [i64_w, i32_w]; rw [c15b0]) | skip)
             have H' := Aside0.mk H
             clear H
             go_wp2
             go_meet
             case rel => exact ⟨_, (x8_11), (by first | rfl | (simp; done) | (simp [*]; done)), H', ⟨by have := HJ2.out; have := HJ9.out; have := HJ11.out; first | omega | exact Nat.le_refl _⟩, ⟨by repeat (first | (with_reducible first | exact HB.out | apply below_alloc | apply pw_below_drewN | apply below_drew1) | exact HB.out)⟩⟩
           case rest =>
            clear HC14
            try clear c1
            try clear p2
            try clear c4
            try clear c4b0
            try clear c5
            try clear c6
            try clear c6b0
            try clear c6b1
            try clear p6
            try clear c7
            try clear c7b0
            try clear c8
            try clear c8b0
            try clear p9
            try clear q9
            try clear hx9
            try clear c11
            try clear c11b0
            try clear c13
            try clear c13b0
            try clear c13b1
            try clear c15
            try clear c15b0
            try clear p2
            try clear p6
            try clear p9
            try clear q9
            obtain ⟨kq, x8_13, rfl, HA, HJ13, HB⟩ := hcut
            cases kq with
            | zero => exact absurd HA.out (by simp [rivuletref01_Get.j3])
            | succ kj13 =>
             have H := HA.out
             clear HA
             simp only [rivuletref01_Get.j3] at H
             by_cases c16 : (wrap64 ((wrap64 ((a0.size : Int) - a1)) - 1)) < x8_13
             ·rw [if_pos c16] at H
              have c16b0 : decide ((wrap64 ((wrap64 ((a0.size : Int) - a1)) - 1)) < x8_13) = true := decide_eq_true c16
              clear c16
              simp only [Option.some.injEq, Prod.mk.injEq] at H
              obtain ⟨rfl, rfl, rfl⟩ := H
              go_wp2
              go_ret3
              exact ⟨by first | rfl | (simp [errW_none, errW_some] <;> rfl) | (simp [*, errW_none, errW_some] <;> rfl), by repeat (first | (with_reducible first | exact HB.out | apply below_alloc | apply pw_below_drewN | apply below_drew1) | exact HB.out)⟩
             ·rw [if_neg c16] at H
              have c16b0 : decide ((wrap64 ((wrap64 ((a0.size : Int) - a1)) - 1)) < x8_13) = false := decide_eq_false c16
              clear c16
              have H' := Aside0.mk H
              clear H
              go_wp2
              go_loopg [9, 10] kj13 (fun kq v9 v10 w' => ∃ (x9_5 : Int) (x10_5 : Int), v9 = .int .u64 x9_5 ∧ v10 = .int .i64 x10_5 ∧ Aside0 (rivuletref01_Get.l0 kq a0 a1 (wrap64 (bt a0 a1)) x8_13 x9_5 x10_5 = some (r1, r2, r3)) ∧ Aside0 (kq ≤ kj13) ∧ Aside0 (Below w.heap.size w w'))
              case atStart => exact ⟨(0), (0), (by first | rfl | (simp; done) | (simp [*]; done)), (by first | rfl | (simp; done) | (simp [*]; done)), H', ⟨Nat.le_refl _⟩, ⟨by repeat (first | (with_reducible first | exact HB.out | apply below_alloc | apply pw_below_drewN | apply below_drew1) | exact HB.out)⟩⟩
              case round =>
               clear H'
               try clear c1
               try clear p2
               try clear c4
               try clear c4b0
               try clear c5
               try clear c6
               try clear c6b0
               try clear c6b1
               try clear p6
               try clear c7
               try clear c7b0
               try clear c8
               try clear c8b0
               try clear p9
               try clear q9
               try clear hx9
               try clear c11
               try clear c11b0
               try clear c13
               try clear c13b0
               try clear c13b1
               try clear c15
               try clear c15b0
               try clear c16
               try clear c16b0
               try clear p2
               try clear p6
               try clear p9
               try clear q9
               obtain ⟨x9_5, x10_5, rfl, rfl, HA, HK5, HB⟩ := hrel
               cases gk with
               | zero => exact absurd HA.out (by simp [rivuletref01_Get.l0])
               | succ k5 =>
                have H := HA.out
                clear HA
                simp only [rivuletref01_Get.l0] at H
                by_cases c17 : x10_5 < x8_13
                ·rw [if_pos c17] at H
                 have c17b0 : decide (x10_5 < x8_13) = true := decide_eq_true c17
                 clear c17
                 obtain ⟨ji18, hji18⟩ : ∃ j_ : Int, (wrap64 ((wrap64 (a1 + 1)) + x10_5)) = j_ := ⟨_, rfl⟩
                 replace H : (if 0 ≤ (ji18) then (if (ji18) < (a0.size : Int) then (rivuletref01_Get.l0 k5 a0 a1 (wrap64 (bt a0 a1)) x8_13 (IntKind.u64.wrap ((IntKind.u64.wrap (256 * x9_5)) + (IntKind.u64.wrap (bt a0 (ji18))))) (wrap64 (x10_5 + 1))) else (none)) else (none)) = some (r1, r2, r3) := by first | (rw [hji18] at H; exact H) | (simp only [hji18] at H ⊢; exact H)
                 have hji18w : (IntKind.i64.wrap ((wrap64 (a1 + 1)) + x10_5)) = ji18 := (i64_w _).trans hji18
                 by_cases c19 : 0 ≤ (ji18)
                 ·rw [if_pos c19] at H
                  have c19b0 : decide (0 ≤ (ji18)) = true := decide_eq_true c19
                  clear c19
                  by_cases c20 : (ji18) < (a0.size : Int)
                  ·rw [if_pos c20] at H
                   have c20b0 : decide ((ji18) < (a0.size : Int)) = true := decide_eq_true c20
                   clear c20
                   have H' := Aside0.mk H
                   clear H
                   have p21 : 0 ≤ ((ji18) : Int) := of_decide_eq_true (by first | (with_reducible assumption) | assumption)
                   have q21 : (ji18) < (a0.size : Int) := of_decide_eq_true (by first | (with_reducible assumption) | assumption)
                   have hx21 := bt_at a0 (ji18)
                   replace p21 := eq_true p21
                   replace q21 := eq_true q21
                   go_wp2
                   go_roundg k5
                   case measure => have := HJ2.out; have := HJ9.out; have := HJ11.out; have := HJ13.out; have := HK5.out; omega
                   case rel => exact ⟨(IntKind.u64.wrap ((IntKind.u64.wrap (256 * x9_5)) + (IntKind.u64.wrap (bt a0 (ji18))))), (wrap64 (x10_5 + 1)), (by first | rfl | (simp; done) | (simp only [← hji18] <;> (first | rfl | simp)) | (simp [*]; done)), (by first | rfl | (simp; done) | (simp [*]; done)), H', ⟨by have := HJ2.out; have := HJ9.out; have := HJ11.out; have := HJ13.out; have := HK5.out; omega⟩, ⟨by repeat (first | (with_reducible first | exact HB.out | apply below_alloc | apply pw_below_drewN | apply below_drew1) | exact HB.out)⟩⟩
                  ·rw [if_neg c20] at H
                   exact absurd H (by simp)
                 ·rw [if_neg c19] at H
                  exact absurd H (by simp)
                ·rw [if_neg c17] at H
                 have c17b0 : decide (x10_5 < x8_13) = false := decide_eq_false c17
                 clear c17
                 have HC22 := Aside0.mk H
                 clear H
                 go_upto_if 58 with (fail)
                 go_cut [9] (fun v9 wc => ∃ (kq : Nat) (x9_21 : Int), v9 = .int .u64 x9_21 ∧ Aside0 (rivuletref01_Get.j5 kq a0 a1 (wrap64 (bt a0 a1)) x8_13 x9_21 = some (r1, r2, r3)) ∧ Aside0 (kq ≤ k5) ∧ Aside0 (Below w.heap.size w wc))
                 case first =>
                  have H := HC22.out
                  clear HC22
                  by_cases c23 : x8_13 = 0
                  ·rw [if_pos c23] at H
                   have c23b0 : (x8_13 == 0) = true := beq_iff_eq.mpr c23
                   have c23b1 : (x8_13 != 0) = false := bne_eq_false_iff_eq.mpr c23
                   clear c23
                   (first | rw [c23b0] | (simp only [i64_w, i32_w]; rw [c23b0]) | skip)
                   have H' := Aside0.mk H
                   clear H
                   go_wp2
                   go_meet
                   case rel => exact ⟨_, (IntKind.u64.wrap ((wrap64 (bt a0 a1)))), (by first | rfl | (simp; done) | (simp [*]; done)), H', ⟨by have := HJ2.out; have := HJ9.out; have := HJ11.out; have := HJ13.out; have := HK5.out; first | omega | exact Nat.le_refl _⟩, ⟨by repeat (first | (with_reducible first | exact HB.out | apply below_alloc | apply pw_below_drewN | apply below_drew1) | exact HB.out)⟩⟩
                  ·rw [if_neg c23] at H
                   have c23b0 : (x8_13 == 0) = false := beq_eq_false_iff_ne.mpr c23
                   have c23b1 : (x8_13 != 0) = true := bne_iff_ne.mpr c23
                   (first | rw [c23b0] | (simp only [i64_w, i32_w]; rw [c23b0]) | skip)
                   have H' := Aside0.mk H
                   clear H
                   go_wp2
                   go_meet
                   case rel => exact ⟨_, (x9_5), (by first | rfl | (simp; done) | (simp [*]; done)), H', ⟨by have := HJ2.out; have := HJ9.out; have := HJ11.out; have := HJ13.out; have := HK5.out; first | omega | exact Nat.le_refl _⟩, ⟨by repeat (first | (with_reducible first | exact HB.out | apply below_alloc | apply pw_below_drewN | apply below_drew1) | exact HB.out)⟩⟩
                 case rest =>
                  clear HC22
                  try clear c1
                  try clear c2
                  try clear p2
                  try clear q2
                  try clear hx2
                  try clear c4
                  try clear c4b0
                  try clear c5
                  try clear c6
                  try clear c6b0
                  try clear c6b1
                  try clear p6
                  try clear c7
                  try clear c7b0
                  try clear c8
                  try clear c8b0
                  try clear p9
                  try clear q9
                  try clear hx9
                  try clear c11
                  try clear c11b0
                  try clear c13
                  try clear c13b0
                  try clear c13b1
                  try clear c15
                  try clear c15b0
                  try clear c16
                  try clear c16b0
                  try clear c17
                  try clear c17b0
                  try clear c19
                  try clear c19b0
                  try clear c20
                  try clear c20b0
                  try clear p21
                  try clear q21
                  try clear hx21
                  try clear c23
                  try clear c23b0
                  try clear c23b1
                  try clear p2
                  try clear p21
                  try clear p6
                  try clear p9
                  try clear q21
                  try clear q9
                  obtain ⟨kq, x9_21, rfl, HA, HJ21, HB⟩ := hcut
                  cases kq with
                  | zero => exact absurd HA.out (by simp [rivuletref01_Get.j5])
                  | succ kj21 =>
                   have H := HA.out
                   clear HA
                   simp only [rivuletref01_Get.j5] at H
                   have HC24 := Aside0.mk H
                   clear H
                   go_upto_if 62 with (fail)
                   go_cut [9] (fun v9 wc => ∃ (kq : Nat) (x9_23 : Int), v9 = .int .u64 x9_23 ∧ Aside0 (rivuletref01_Get.j6 kq a0 a1 x8_13 x9_23 = some (r1, r2, r3)) ∧ Aside0 (kq ≤ kj21) ∧ Aside0 (Below w.heap.size w wc))
                   case first =>
                    have H := HC24.out
                    clear HC24
                    by_cases c25 : x8_13 = 1
                    ·rw [if_pos c25] at H
                     have c25b0 : (x8_13 == 1) = true := beq_iff_eq.mpr c25
                     have c25b1 : (x8_13 != 1) = false := bne_eq_false_iff_eq.mpr c25
                     clear c25
                     (first | rw [c25b0] | (simp only [i64_w, i32_w]; rw [c25b0]) | skip)
                     have H' := Aside0.mk H
                     clear H
                     go_wp2
                     go_meet
                     case rel => exact ⟨_, (IntKind.u64.wrap ((IntKind.u64.wrap (240 + (IntKind.u64.wrap (256 * (IntKind.u64.wrap (wrap64 ((wrap64 (bt a0 a1)) - 241))))))) + x9_21)), (by first | rfl | (simp; done) | (simp [*]; done)), H', ⟨by have := HJ2.out; have := HJ9.out; have := HJ11.out; have := HJ13.out; have := HK5.out; have := HJ21.out; first | omega | exact Nat.le_refl _⟩, ⟨by repeat (first | (with_reducible first | exact HB.out | apply below_alloc | apply pw_below_drewN | apply below_drew1) | exact HB.out)⟩⟩
                    ·rw [if_neg c25] at H
                     have c25b0 : (x8_13 == 1) = false := beq_eq_false_iff_ne.mpr c25
                     have c25b1 : (x8_13 != 1) = true := bne_iff_ne.mpr c25
                     (first | rw [c25b0] | (simp only [i64_w, i32_w]; rw [c25b0]) | skip)
                     have H' := Aside0.mk H
                     clear H
                     go_wp2
                     go_meet
                     case rel => exact ⟨_, (x9_21), (by first | rfl | (simp; done) | (simp [*]; done)), H', ⟨by have := HJ2.out; have := HJ9.out; have := HJ11.out; have := HJ13.out; have := HK5.out; have := HJ21.out; first | omega | exact Nat.le_refl _⟩, ⟨by repeat (first | (with_reducible first | exact HB.out | apply below_alloc | apply pw_below_drewN | apply below_drew1) | exact HB.out)⟩⟩
                   case rest =>
                    clear HC24
                    try clear c1
                    try clear c2
                    try clear p2
                    try clear q2
                    try clear hx2
                    try clear c4
                    try clear c4b0
                    try clear c5
                    try clear c6
                    try clear c6b0
                    try clear c6b1
                    try clear p6
                    try clear c7
                    try clear c7b0
                    try clear c8
                    try clear c8b0
                    try clear p9
                    try clear q9
                    try clear hx9
                    try clear c11
                    try clear c11b0
                    try clear c13
                    try clear c13b0
                    try clear c13b1
                    try clear c15
                    try clear c15b0
                    try clear c16
                    try clear c16b0
                    try clear c17
                    try clear c17b0
                    try clear c19
                    try clear c19b0
                    try clear c20
                    try clear c20b0
                    try clear p21
                    try clear q21
                    try clear hx21
                    try clear c23
                    try clear c23b0
                    try clear c23b1
                    try clear c25
                    try clear c25b0
                    try clear c25b1
                    try clear p2
                    try clear p21
                    try clear p6
                    try clear p9
                    try clear q2
                    try clear q21
                    try clear q9
                    obtain ⟨kq, x9_23, rfl, HA, HJ23, HB⟩ := hcut
                    cases kq with
                    | zero => exact absurd HA.out (by simp [rivuletref01_Get.j6])
                    | succ kj23 =>
                     have H := HA.out
                     clear HA
                     simp only [rivuletref01_Get.j6] at H
                     by_cases c26 : x8_13 = 2
                     ·rw [if_pos c26] at H
                      have c26b0 : (x8_13 == 2) = true := beq_iff_eq.mpr c26
                      have c26b1 : (x8_13 != 2) = false := bne_eq_false_iff_eq.mpr c26
                      clear c26
                      replace H := Option.bind_eq_some_iff.mp H
                      obtain ⟨t139, A270, H⟩ := H
                      replace H : (if 0 ≤ a1 then (if a1 ≤ (wrap64 ((wrap64 (a1 + 1)) + x8_13)) then (if (wrap64 ((wrap64 (a1 + 1)) + x8_13)) ≤ (a0.size : Int) then (if t139.toList = (a0.extract (a1 : Int).toNat ((wrap64 ((wrap64 (a1 + 1)) + x8_13)) : Int).toNat).toList then (some (IntKind.u64.wrap (2288 + x9_23), wrap64 ((wrap64 (a1 + 1)) + x8_13), 0)) else (some (0, 0, 4))) else (none)) else (none)) else (none)) = some (r1, r2, r3) := H
                      have A27 := Aside0.mk A270
                      clear A270
                      by_cases c28 : 0 ≤ a1
                      ·rw [if_pos c28] at H
                       have c28b0 := eq_true c28
                       have c28b1 : decide (0 ≤ a1) = true := decide_eq_true c28
                       clear c28
                       by_cases c29 : a1 ≤ (wrap64 ((wrap64 (a1 + 1)) + x8_13))
                       ·rw [if_pos c29] at H
                        have c29b0 := eq_true c29
                        have c29b1 : decide (a1 ≤ (wrap64 ((wrap64 (a1 + 1)) + x8_13))) = true := decide_eq_true c29
                        by_cases c30 : (wrap64 ((wrap64 (a1 + 1)) + x8_13)) ≤ (a0.size : Int)
                        ·rw [if_pos c30] at H
                         have c30b0 := eq_true c30
                         have c30b1 : decide ((wrap64 ((wrap64 (a1 + 1)) + x8_13)) ≤ (a0.size : Int)) = true := decide_eq_true c30
                         by_cases c31 : t139.toList = (a0.extract (a1 : Int).toNat ((wrap64 ((wrap64 (a1 + 1)) + x8_13)) : Int).toNat).toList
                         ·rw [if_pos c31] at H
                          have c31b0 : (t139.toList == (a0.extract (a1 : Int).toNat ((wrap64 ((wrap64 (a1 + 1)) + x8_13)) : Int).toNat).toList) = true := beq_iff_eq.mpr c31
                          have c31b1 : (t139.toList != (a0.extract (a1 : Int).toNat ((wrap64 ((wrap64 (a1 + 1)) + x8_13)) : Int).toNat).toList) = false := bne_eq_false_iff_eq.mpr c31
                          clear c31
                          simp only [Option.some.injEq, Prod.mk.injEq] at H
                          obtain ⟨rfl, rfl, rfl⟩ := H
                          try go_wp2
                          have n0_ := Aside0.mk (below_drew1 HB.out)
                          clear HB
                          have HB := n0_
                          clear n0_
                          refine start_ (n := 10) (S := fun w' => True) (ds := []) (List.toArray (List.replicate 10 false)) (by kernel_rfl) rfl rfl trivial (fun hHeld => ?_); refine with_tabW rivuletref01_Get.tab25 rivuletref01_Get.bits25 (fun HT_ HW_ => ?_)
                          generalize wc.drew = w32 at HB hHeld ⊢
                          refine pure_ (i := 0) (N := some 74) (v := ?_) (a' := ?_) (List.toArray ([true] ++ List.replicate 9 false)) rfl rfl (any_of HT_.out (by kernel_rfl)) (fun _ _ _ h => h) (Or.inl ⟨by rfl, ?_⟩) ?_ ?_
                          rotate_left
                          ·intro w'
                           go_simp
                           with_reducible rfl
                          rotate_left
                          ·simp only [Act.put, List.setIfInBounds_toArray, List.set_cons_zero, List.set_cons_succ, i64_w, i32_w]
                           rfl
                          refine pure_ (i := 2) (N := some 76) (v := ?_) (a' := ?_) #[true, false, true, false, false, false, false, false, false, false] rfl rfl (any_of HT_.out (by kernel_rfl)) (fun _ _ _ h => h) (Or.inl ⟨by rfl, ?_⟩) ?_ ?_
                          rotate_left
                          ·intro w'
                           go_simp
                           with_reducible rfl
                          rotate_left
                          ·simp only [Act.put, List.setIfInBounds_toArray, List.set_cons_zero, List.set_cons_succ, i64_w, i32_w]
                           rfl
                          refine pure_ (i := 3) (N := some 77) (v := ?_) (a' := ?_) #[true, false, true, true, false, false, false, false, false, false] rfl rfl (any_of HT_.out (by kernel_rfl)) (fun _ _ _ h => h) (Or.inl ⟨by rfl, ?_⟩) ?_ ?_
                          rotate_left
                          ·intro w'
                           go_simp
                           with_reducible rfl
                          rotate_left
                          ·simp only [Act.put, List.setIfInBounds_toArray, List.set_cons_zero, List.set_cons_succ, i64_w, i32_w]
                           rfl
                          refine pure_ (i := 4) (N := some 78) (v := ?_) (a' := ?_) #[true, false, true, true, true, false, false, false, false, false] rfl rfl (any_of HT_.out (by kernel_rfl)) (fun _ _ _ h => h) (Or.inl ⟨by rfl, ?_⟩) ?_ ?_
                          rotate_left
                          ·intro w'
                           go_simp
                           with_reducible rfl
                          rotate_left
                          ·simp only [Act.put, List.setIfInBounds_toArray, List.set_cons_zero, List.set_cons_succ, i64_w, i32_w]
                           rfl
                          refine pure_ (i := 5) (N := some 79) (v := ?_) (a' := ?_) #[true, false, true, true, true, true, false, false, false, false] rfl rfl (any_of HT_.out (by kernel_rfl)) (fun _ _ _ h => h) (Or.inl ⟨by rfl, ?_⟩) ?_ ?_
                          rotate_left
                          ·intro w'
                           go_simp
                           with_reducible rfl
                          rotate_left
                          ·simp only [Act.put, List.setIfInBounds_toArray, List.set_cons_zero, List.set_cons_succ, i64_w, i32_w]
                           rfl
                          refine pure_ (i := 6) (N := some 80) (v := ?_) (a' := ?_) #[true, false, true, true, true, true, true, false, false, false] rfl rfl (any_of HT_.out (by kernel_rfl)) (fun _ _ _ h => h) (Or.inl ⟨by rfl, ?_⟩) ?_ ?_
                          rotate_left
                          ·intro w'
                           go_simp
                           with_reducible rfl
                          rotate_left
                          ·simp only [Act.put, List.setIfInBounds_toArray, List.set_cons_zero, List.set_cons_succ, i64_w, i32_w]
                           rfl
                          refine pure_ (i := 7) (N := some 81) (v := ?_) (a' := ?_) #[true, false, true, true, true, true, true, true, false, false] rfl rfl (any_of HT_.out (by kernel_rfl)) (fun _ _ _ h => h) (Or.inl ⟨by rfl, ?_⟩) ?_ ?_
                          rotate_left
                          ·intro w'
                           go_simp
                           with_reducible rfl
                          rotate_left
                          ·simp only [Act.put, List.setIfInBounds_toArray, List.set_cons_zero, List.set_cons_succ, i64_w, i32_w]
                           rfl
                          refine pure_ (i := 8) (N := some 82) (v := ?_) (a' := ?_) #[true, false, true, true, true, true, true, true, true, false] rfl rfl (any_of HT_.out (by kernel_rfl)) (fun _ _ _ h => h) (Or.inl ⟨by rfl, ?_⟩) ?_ ?_
                          rotate_left
                          ·intro w'
                           go_simp
                           with_reducible rfl
                          rotate_left
                          ·simp only [Act.put, List.setIfInBounds_toArray, List.set_cons_zero, List.set_cons_succ, i64_w, i32_w]
                           rfl
                          refine one_ (i := 1) (N := some 75) #[true, true, true, true, true, true, true, true, true, false] rfl rfl (one_of HT_.out (by kernel_rfl)) (by decide) (fun K hK => ?_)
                          refine goes_ Tryd.func46 (by kernel_rfl) rfl #[.int .u64 (IntKind.u64.wrap (2288 + x9_23))] (by rfl) rfl rfl (by (try simp only [List.map_toArray, List.map_cons, List.map_nil]); first | done | rfl | (simp only [List.length_drop, List.length_take]; rfl)) ?_
                          with_reducible refine (rivuletref01_Put.calls kj23 (IntKind.u64.wrap (2288 + x9_23)) t139 _ A27.out).mono ?_
                          rintro e w33 ⟨rfl, hb⟩
                          refine ⟨_, rfl, ?_⟩
                          have n0_ := Aside0.mk (below_step (by repeat (first | (with_reducible first | exact HB.out | apply below_alloc | apply pw_below_drewN | apply below_drew1) | exact HB.out)) hb)
                          clear HB
                          have HB := n0_
                          clear n0_
                          (try clear hb)
                          (try clear hb2)
                          (try clear hk)
                          (try clear hi)
                          refine hK.out _ _ trivial (fun hHeld => ?_)
                          clear hK K
                          refine norm_ (a' := ?_) ?_ ?_
                          rotate_left
                          ·show Act.put _ (some 75) _ = _
                           simp only [Act.put, List.setIfInBounds_toArray, List.set_cons_zero, List.set_cons_succ, i64_w, i32_w]
                           rfl
                          refine pure_ (i := 9) (N := some 83) (v := ?_) (a' := ?_) (List.toArray (List.replicate 10 true)) rfl rfl (any_of HT_.out (by kernel_rfl)) (fun _ _ _ h => h) (Or.inl ⟨by rfl, ?_⟩) ?_ ?_
                          rotate_left
                          ·intro w'
                           go_simp
                           with_reducible rfl
                          rotate_left
                          ·simp only [Act.put, List.setIfInBounds_toArray, List.set_cons_zero, List.set_cons_succ, i64_w, i32_w]
                           rfl
                          refine done_ (done_of HT_.out (by kernel_rfl)) ?_
                          try go_wp2
                          go_ret3
                          exact ⟨by first | rfl | (simp [errW_none, errW_some] <;> rfl) | (simp [*, errW_none, errW_some] <;> rfl), by repeat (first | (with_reducible first | exact HB.out | apply below_alloc | apply pw_below_drewN | apply below_drew1) | exact HB.out)⟩
                         ·rw [if_neg c31] at H
                          have c31b0 : (t139.toList == (a0.extract (a1 : Int).toNat ((wrap64 ((wrap64 (a1 + 1)) + x8_13)) : Int).toNat).toList) = false := beq_eq_false_iff_ne.mpr c31
                          have c31b1 : (t139.toList != (a0.extract (a1 : Int).toNat ((wrap64 ((wrap64 (a1 + 1)) + x8_13)) : Int).toNat).toList) = true := bne_iff_ne.mpr c31
                          simp only [Option.some.injEq, Prod.mk.injEq] at H
                          obtain ⟨rfl, rfl, rfl⟩ := H
                          try go_wp2
                          have n0_ := Aside0.mk (below_drew1 HB.out)
                          clear HB
                          have HB := n0_
                          clear n0_
                          refine start_ (n := 10) (S := fun w' => True) (ds := []) (List.toArray (List.replicate 10 false)) (by kernel_rfl) rfl rfl trivial (fun hHeld => ?_); refine with_tabW rivuletref01_Get.tab25 rivuletref01_Get.bits25 (fun HT_ HW_ => ?_)
                          generalize wc.drew = w34 at HB hHeld ⊢
                          refine pure_ (i := 0) (N := some 74) (v := ?_) (a' := ?_) (List.toArray ([true] ++ List.replicate 9 false)) rfl rfl (any_of HT_.out (by kernel_rfl)) (fun _ _ _ h => h) (Or.inl ⟨by rfl, ?_⟩) ?_ ?_
                          rotate_left
                          ·intro w'
                           go_simp
                           with_reducible rfl
                          rotate_left
                          ·simp only [Act.put, List.setIfInBounds_toArray, List.set_cons_zero, List.set_cons_succ, i64_w, i32_w]
                           rfl
                          refine pure_ (i := 2) (N := some 76) (v := ?_) (a' := ?_) #[true, false, true, false, false, false, false, false, false, false] rfl rfl (any_of HT_.out (by kernel_rfl)) (fun _ _ _ h => h) (Or.inl ⟨by rfl, ?_⟩) ?_ ?_
                          rotate_left
                          ·intro w'
                           go_simp
                           with_reducible rfl
                          rotate_left
                          ·simp only [Act.put, List.setIfInBounds_toArray, List.set_cons_zero, List.set_cons_succ, i64_w, i32_w]
                           rfl
                          refine pure_ (i := 3) (N := some 77) (v := ?_) (a' := ?_) #[true, false, true, true, false, false, false, false, false, false] rfl rfl (any_of HT_.out (by kernel_rfl)) (fun _ _ _ h => h) (Or.inl ⟨by rfl, ?_⟩) ?_ ?_
                          rotate_left
                          ·intro w'
                           go_simp
                           with_reducible rfl
                          rotate_left
                          ·simp only [Act.put, List.setIfInBounds_toArray, List.set_cons_zero, List.set_cons_succ, i64_w, i32_w]
                           rfl
                          refine pure_ (i := 4) (N := some 78) (v := ?_) (a' := ?_) #[true, false, true, true, true, false, false, false, false, false] rfl rfl (any_of HT_.out (by kernel_rfl)) (fun _ _ _ h => h) (Or.inl ⟨by rfl, ?_⟩) ?_ ?_
                          rotate_left
                          ·intro w'
                           go_simp
                           with_reducible rfl
                          rotate_left
                          ·simp only [Act.put, List.setIfInBounds_toArray, List.set_cons_zero, List.set_cons_succ, i64_w, i32_w]
                           rfl
                          refine pure_ (i := 5) (N := some 79) (v := ?_) (a' := ?_) #[true, false, true, true, true, true, false, false, false, false] rfl rfl (any_of HT_.out (by kernel_rfl)) (fun _ _ _ h => h) (Or.inl ⟨by rfl, ?_⟩) ?_ ?_
                          rotate_left
                          ·intro w'
                           go_simp
                           with_reducible rfl
                          rotate_left
                          ·simp only [Act.put, List.setIfInBounds_toArray, List.set_cons_zero, List.set_cons_succ, i64_w, i32_w]
                           rfl
                          refine pure_ (i := 6) (N := some 80) (v := ?_) (a' := ?_) #[true, false, true, true, true, true, true, false, false, false] rfl rfl (any_of HT_.out (by kernel_rfl)) (fun _ _ _ h => h) (Or.inl ⟨by rfl, ?_⟩) ?_ ?_
                          rotate_left
                          ·intro w'
                           go_simp
                           with_reducible rfl
                          rotate_left
                          ·simp only [Act.put, List.setIfInBounds_toArray, List.set_cons_zero, List.set_cons_succ, i64_w, i32_w]
                           rfl
                          refine pure_ (i := 7) (N := some 81) (v := ?_) (a' := ?_) #[true, false, true, true, true, true, true, true, false, false] rfl rfl (any_of HT_.out (by kernel_rfl)) (fun _ _ _ h => h) (Or.inl ⟨by rfl, ?_⟩) ?_ ?_
                          rotate_left
                          ·intro w'
                           go_simp
                           with_reducible rfl
                          rotate_left
                          ·simp only [Act.put, List.setIfInBounds_toArray, List.set_cons_zero, List.set_cons_succ, i64_w, i32_w]
                           rfl
                          refine pure_ (i := 8) (N := some 82) (v := ?_) (a' := ?_) #[true, false, true, true, true, true, true, true, true, false] rfl rfl (any_of HT_.out (by kernel_rfl)) (fun _ _ _ h => h) (Or.inl ⟨by rfl, ?_⟩) ?_ ?_
                          rotate_left
                          ·intro w'
                           go_simp
                           with_reducible rfl
                          rotate_left
                          ·simp only [Act.put, List.setIfInBounds_toArray, List.set_cons_zero, List.set_cons_succ, i64_w, i32_w]
                           rfl
                          refine one_ (i := 1) (N := some 75) #[true, true, true, true, true, true, true, true, true, false] rfl rfl (one_of HT_.out (by kernel_rfl)) (by decide) (fun K hK => ?_)
                          refine goes_ Tryd.func46 (by kernel_rfl) rfl #[.int .u64 (IntKind.u64.wrap (2288 + x9_23))] (by rfl) rfl rfl (by (try simp only [List.map_toArray, List.map_cons, List.map_nil]); first | done | rfl | (simp only [List.length_drop, List.length_take]; rfl)) ?_
                          with_reducible refine (rivuletref01_Put.calls kj23 (IntKind.u64.wrap (2288 + x9_23)) t139 _ A27.out).mono ?_
                          rintro e w35 ⟨rfl, hb⟩
                          refine ⟨_, rfl, ?_⟩
                          have n0_ := Aside0.mk (below_step (by repeat (first | (with_reducible first | exact HB.out | apply below_alloc | apply pw_below_drewN | apply below_drew1) | exact HB.out)) hb)
                          clear HB
                          have HB := n0_
                          clear n0_
                          (try clear hb)
                          (try clear hb2)
                          (try clear hk)
                          (try clear hi)
                          refine hK.out _ _ trivial (fun hHeld => ?_)
                          clear hK K
                          refine norm_ (a' := ?_) ?_ ?_
                          rotate_left
                          ·show Act.put _ (some 75) _ = _
                           simp only [Act.put, List.setIfInBounds_toArray, List.set_cons_zero, List.set_cons_succ, i64_w, i32_w]
                           rfl
                          refine pure_ (i := 9) (N := some 83) (v := ?_) (a' := ?_) (List.toArray (List.replicate 10 true)) rfl rfl (any_of HT_.out (by kernel_rfl)) (fun _ _ _ h => h) (Or.inl ⟨by rfl, ?_⟩) ?_ ?_
                          rotate_left
                          ·intro w'
                           go_simp
                           with_reducible rfl
                          rotate_left
                          ·simp only [Act.put, List.setIfInBounds_toArray, List.set_cons_zero, List.set_cons_succ, i64_w, i32_w]
                           rfl
                          refine done_ (done_of HT_.out (by kernel_rfl)) ?_
                          try go_wp2
                          go_ret3
                          exact ⟨by first | rfl | (simp [errW_none, errW_some] <;> rfl) | (simp [*, errW_none, errW_some] <;> rfl), by repeat (first | (with_reducible first | exact HB.out | apply below_alloc | apply pw_below_drewN | apply below_drew1) | exact HB.out)⟩
                        ·rw [if_neg c30] at H
                         exact absurd H (by simp)
                       ·rw [if_neg c29] at H
                        exact absurd H (by simp)
                      ·rw [if_neg c28] at H
                       exact absurd H (by simp)
                     ·rw [if_neg c26] at H
                      have c26b0 : (x8_13 == 2) = false := beq_eq_false_iff_ne.mpr c26
                      have c26b1 : (x8_13 != 2) = true := bne_iff_ne.mpr c26
                      replace H := Option.bind_eq_some_iff.mp H
                      obtain ⟨t140, A360, H⟩ := H
                      replace H : (if 0 ≤ a1 then (if a1 ≤ (wrap64 ((wrap64 (a1 + 1)) + x8_13)) then (if (wrap64 ((wrap64 (a1 + 1)) + x8_13)) ≤ (a0.size : Int) then (if t140.toList = (a0.extract (a1 : Int).toNat ((wrap64 ((wrap64 (a1 + 1)) + x8_13)) : Int).toNat).toList then (some (x9_23, wrap64 ((wrap64 (a1 + 1)) + x8_13), 0)) else (some (0, 0, 4))) else (none)) else (none)) else (none)) = some (r1, r2, r3) := H
                      have A36 := Aside0.mk A360
                      clear A360
                      by_cases c37 : 0 ≤ a1
                      ·rw [if_pos c37] at H
                       have c37b0 := eq_true c37
                       have c37b1 : decide (0 ≤ a1) = true := decide_eq_true c37
                       clear c37
                       by_cases c38 : a1 ≤ (wrap64 ((wrap64 (a1 + 1)) + x8_13))
                       ·rw [if_pos c38] at H
                        have c38b0 := eq_true c38
                        have c38b1 : decide (a1 ≤ (wrap64 ((wrap64 (a1 + 1)) + x8_13))) = true := decide_eq_true c38
                        by_cases c39 : (wrap64 ((wrap64 (a1 + 1)) + x8_13)) ≤ (a0.size : Int)
                        ·rw [if_pos c39] at H
                         have c39b0 := eq_true c39
                         have c39b1 : decide ((wrap64 ((wrap64 (a1 + 1)) + x8_13)) ≤ (a0.size : Int)) = true := decide_eq_true c39
                         by_cases c40 : t140.toList = (a0.extract (a1 : Int).toNat ((wrap64 ((wrap64 (a1 + 1)) + x8_13)) : Int).toNat).toList
                         ·rw [if_pos c40] at H
                          have c40b0 : (t140.toList == (a0.extract (a1 : Int).toNat ((wrap64 ((wrap64 (a1 + 1)) + x8_13)) : Int).toNat).toList) = true := beq_iff_eq.mpr c40
                          have c40b1 : (t140.toList != (a0.extract (a1 : Int).toNat ((wrap64 ((wrap64 (a1 + 1)) + x8_13)) : Int).toNat).toList) = false := bne_eq_false_iff_eq.mpr c40
                          clear c40
                          simp only [Option.some.injEq, Prod.mk.injEq] at H
                          obtain ⟨rfl, rfl, rfl⟩ := H
                          try go_wp2
                          have n0_ := Aside0.mk (below_drew1 HB.out)
                          clear HB
                          have HB := n0_
                          clear n0_
                          refine start_ (n := 10) (S := fun w' => True) (ds := []) (List.toArray (List.replicate 10 false)) (by kernel_rfl) rfl rfl trivial (fun hHeld => ?_); refine with_tabW rivuletref01_Get.tab25 rivuletref01_Get.bits25 (fun HT_ HW_ => ?_)
                          generalize wc.drew = w41 at HB hHeld ⊢
                          refine pure_ (i := 0) (N := some 74) (v := ?_) (a' := ?_) (List.toArray ([true] ++ List.replicate 9 false)) rfl rfl (any_of HT_.out (by kernel_rfl)) (fun _ _ _ h => h) (Or.inl ⟨by rfl, ?_⟩) ?_ ?_
                          rotate_left
                          ·intro w'
                           go_simp
                           with_reducible rfl
                          rotate_left
                          ·simp only [Act.put, List.setIfInBounds_toArray, List.set_cons_zero, List.set_cons_succ, i64_w, i32_w]
                           rfl
                          refine pure_ (i := 2) (N := some 76) (v := ?_) (a' := ?_) #[true, false, true, false, false, false, false, false, false, false] rfl rfl (any_of HT_.out (by kernel_rfl)) (fun _ _ _ h => h) (Or.inl ⟨by rfl, ?_⟩) ?_ ?_
                          rotate_left
                          ·intro w'
                           go_simp
                           with_reducible rfl
                          rotate_left
                          ·simp only [Act.put, List.setIfInBounds_toArray, List.set_cons_zero, List.set_cons_succ, i64_w, i32_w]
                           rfl
                          refine pure_ (i := 3) (N := some 77) (v := ?_) (a' := ?_) #[true, false, true, true, false, false, false, false, false, false] rfl rfl (any_of HT_.out (by kernel_rfl)) (fun _ _ _ h => h) (Or.inl ⟨by rfl, ?_⟩) ?_ ?_
                          rotate_left
                          ·intro w'
                           go_simp
                           with_reducible rfl
                          rotate_left
                          ·simp only [Act.put, List.setIfInBounds_toArray, List.set_cons_zero, List.set_cons_succ, i64_w, i32_w]
                           rfl
                          refine pure_ (i := 4) (N := some 78) (v := ?_) (a' := ?_) #[true, false, true, true, true, false, false, false, false, false] rfl rfl (any_of HT_.out (by kernel_rfl)) (fun _ _ _ h => h) (Or.inl ⟨by rfl, ?_⟩) ?_ ?_
                          rotate_left
                          ·intro w'
                           go_simp
                           with_reducible rfl
                          rotate_left
                          ·simp only [Act.put, List.setIfInBounds_toArray, List.set_cons_zero, List.set_cons_succ, i64_w, i32_w]
                           rfl
                          refine pure_ (i := 5) (N := some 79) (v := ?_) (a' := ?_) #[true, false, true, true, true, true, false, false, false, false] rfl rfl (any_of HT_.out (by kernel_rfl)) (fun _ _ _ h => h) (Or.inl ⟨by rfl, ?_⟩) ?_ ?_
                          rotate_left
                          ·intro w'
                           go_simp
                           with_reducible rfl
                          rotate_left
                          ·simp only [Act.put, List.setIfInBounds_toArray, List.set_cons_zero, List.set_cons_succ, i64_w, i32_w]
                           rfl
                          refine pure_ (i := 6) (N := some 80) (v := ?_) (a' := ?_) #[true, false, true, true, true, true, true, false, false, false] rfl rfl (any_of HT_.out (by kernel_rfl)) (fun _ _ _ h => h) (Or.inl ⟨by rfl, ?_⟩) ?_ ?_
                          rotate_left
                          ·intro w'
                           go_simp
                           with_reducible rfl
                          rotate_left
                          ·simp only [Act.put, List.setIfInBounds_toArray, List.set_cons_zero, List.set_cons_succ, i64_w, i32_w]
                           rfl
                          refine pure_ (i := 7) (N := some 81) (v := ?_) (a' := ?_) #[true, false, true, true, true, true, true, true, false, false] rfl rfl (any_of HT_.out (by kernel_rfl)) (fun _ _ _ h => h) (Or.inl ⟨by rfl, ?_⟩) ?_ ?_
                          rotate_left
                          ·intro w'
                           go_simp
                           with_reducible rfl
                          rotate_left
                          ·simp only [Act.put, List.setIfInBounds_toArray, List.set_cons_zero, List.set_cons_succ, i64_w, i32_w]
                           rfl
                          refine pure_ (i := 8) (N := some 82) (v := ?_) (a' := ?_) #[true, false, true, true, true, true, true, true, true, false] rfl rfl (any_of HT_.out (by kernel_rfl)) (fun _ _ _ h => h) (Or.inl ⟨by rfl, ?_⟩) ?_ ?_
                          rotate_left
                          ·intro w'
                           go_simp
                           with_reducible rfl
                          rotate_left
                          ·simp only [Act.put, List.setIfInBounds_toArray, List.set_cons_zero, List.set_cons_succ, i64_w, i32_w]
                           rfl
                          refine one_ (i := 1) (N := some 75) #[true, true, true, true, true, true, true, true, true, false] rfl rfl (one_of HT_.out (by kernel_rfl)) (by decide) (fun K hK => ?_)
                          refine goes_ Tryd.func46 (by kernel_rfl) rfl #[.int .u64 x9_23] (by rfl) rfl rfl (by (try simp only [List.map_toArray, List.map_cons, List.map_nil]); first | done | rfl | (simp only [List.length_drop, List.length_take]; rfl)) ?_
                          with_reducible refine (rivuletref01_Put.calls kj23 x9_23 t140 _ A36.out).mono ?_
                          rintro e w42 ⟨rfl, hb⟩
                          refine ⟨_, rfl, ?_⟩
                          have n0_ := Aside0.mk (below_step (by repeat (first | (with_reducible first | exact HB.out | apply below_alloc | apply pw_below_drewN | apply below_drew1) | exact HB.out)) hb)
                          clear HB
                          have HB := n0_
                          clear n0_
                          (try clear hb)
                          (try clear hb2)
                          (try clear hk)
                          (try clear hi)
                          refine hK.out _ _ trivial (fun hHeld => ?_)
                          clear hK K
                          refine norm_ (a' := ?_) ?_ ?_
                          rotate_left
                          ·show Act.put _ (some 75) _ = _
                           simp only [Act.put, List.setIfInBounds_toArray, List.set_cons_zero, List.set_cons_succ, i64_w, i32_w]
                           rfl
                          refine pure_ (i := 9) (N := some 83) (v := ?_) (a' := ?_) (List.toArray (List.replicate 10 true)) rfl rfl (any_of HT_.out (by kernel_rfl)) (fun _ _ _ h => h) (Or.inl ⟨by rfl, ?_⟩) ?_ ?_
                          rotate_left
                          ·intro w'
                           go_simp
                           with_reducible rfl
                          rotate_left
                          ·simp only [Act.put, List.setIfInBounds_toArray, List.set_cons_zero, List.set_cons_succ, i64_w, i32_w]
                           rfl
                          refine done_ (done_of HT_.out (by kernel_rfl)) ?_
                          try go_wp2
                          go_ret3
                          exact ⟨by first | rfl | (simp [errW_none, errW_some] <;> rfl) | (simp [*, errW_none, errW_some] <;> rfl), by repeat (first | (with_reducible first | exact HB.out | apply below_alloc | apply pw_below_drewN | apply below_drew1) | exact HB.out)⟩
                         ·rw [if_neg c40] at H
                          have c40b0 : (t140.toList == (a0.extract (a1 : Int).toNat ((wrap64 ((wrap64 (a1 + 1)) + x8_13)) : Int).toNat).toList) = false := beq_eq_false_iff_ne.mpr c40
                          have c40b1 : (t140.toList != (a0.extract (a1 : Int).toNat ((wrap64 ((wrap64 (a1 + 1)) + x8_13)) : Int).toNat).toList) = true := bne_iff_ne.mpr c40
                          simp only [Option.some.injEq, Prod.mk.injEq] at H
                          obtain ⟨rfl, rfl, rfl⟩ := H
                          try go_wp2
                          have n0_ := Aside0.mk (below_drew1 HB.out)
                          clear HB
                          have HB := n0_
                          clear n0_
                          refine start_ (n := 10) (S := fun w' => True) (ds := []) (List.toArray (List.replicate 10 false)) (by kernel_rfl) rfl rfl trivial (fun hHeld => ?_); refine with_tabW rivuletref01_Get.tab25 rivuletref01_Get.bits25 (fun HT_ HW_ => ?_)
                          generalize wc.drew = w43 at HB hHeld ⊢
                          refine pure_ (i := 0) (N := some 74) (v := ?_) (a' := ?_) (List.toArray ([true] ++ List.replicate 9 false)) rfl rfl (any_of HT_.out (by kernel_rfl)) (fun _ _ _ h => h) (Or.inl ⟨by rfl, ?_⟩) ?_ ?_
                          rotate_left
                          ·intro w'
                           go_simp
                           with_reducible rfl
                          rotate_left
                          ·simp only [Act.put, List.setIfInBounds_toArray, List.set_cons_zero, List.set_cons_succ, i64_w, i32_w]
                           rfl
                          refine pure_ (i := 2) (N := some 76) (v := ?_) (a' := ?_) #[true, false, true, false, false, false, false, false, false, false] rfl rfl (any_of HT_.out (by kernel_rfl)) (fun _ _ _ h => h) (Or.inl ⟨by rfl, ?_⟩) ?_ ?_
                          rotate_left
                          ·intro w'
                           go_simp
                           with_reducible rfl
                          rotate_left
                          ·simp only [Act.put, List.setIfInBounds_toArray, List.set_cons_zero, List.set_cons_succ, i64_w, i32_w]
                           rfl
                          refine pure_ (i := 3) (N := some 77) (v := ?_) (a' := ?_) #[true, false, true, true, false, false, false, false, false, false] rfl rfl (any_of HT_.out (by kernel_rfl)) (fun _ _ _ h => h) (Or.inl ⟨by rfl, ?_⟩) ?_ ?_
                          rotate_left
                          ·intro w'
                           go_simp
                           with_reducible rfl
                          rotate_left
                          ·simp only [Act.put, List.setIfInBounds_toArray, List.set_cons_zero, List.set_cons_succ, i64_w, i32_w]
                           rfl
                          refine pure_ (i := 4) (N := some 78) (v := ?_) (a' := ?_) #[true, false, true, true, true, false, false, false, false, false] rfl rfl (any_of HT_.out (by kernel_rfl)) (fun _ _ _ h => h) (Or.inl ⟨by rfl, ?_⟩) ?_ ?_
                          rotate_left
                          ·intro w'
                           go_simp
                           with_reducible rfl
                          rotate_left
                          ·simp only [Act.put, List.setIfInBounds_toArray, List.set_cons_zero, List.set_cons_succ, i64_w, i32_w]
                           rfl
                          refine pure_ (i := 5) (N := some 79) (v := ?_) (a' := ?_) #[true, false, true, true, true, true, false, false, false, false] rfl rfl (any_of HT_.out (by kernel_rfl)) (fun _ _ _ h => h) (Or.inl ⟨by rfl, ?_⟩) ?_ ?_
                          rotate_left
                          ·intro w'
                           go_simp
                           with_reducible rfl
                          rotate_left
                          ·simp only [Act.put, List.setIfInBounds_toArray, List.set_cons_zero, List.set_cons_succ, i64_w, i32_w]
                           rfl
                          refine pure_ (i := 6) (N := some 80) (v := ?_) (a' := ?_) #[true, false, true, true, true, true, true, false, false, false] rfl rfl (any_of HT_.out (by kernel_rfl)) (fun _ _ _ h => h) (Or.inl ⟨by rfl, ?_⟩) ?_ ?_
                          rotate_left
                          ·intro w'
                           go_simp
                           with_reducible rfl
                          rotate_left
                          ·simp only [Act.put, List.setIfInBounds_toArray, List.set_cons_zero, List.set_cons_succ, i64_w, i32_w]
                           rfl
                          refine pure_ (i := 7) (N := some 81) (v := ?_) (a' := ?_) #[true, false, true, true, true, true, true, true, false, false] rfl rfl (any_of HT_.out (by kernel_rfl)) (fun _ _ _ h => h) (Or.inl ⟨by rfl, ?_⟩) ?_ ?_
                          rotate_left
                          ·intro w'
                           go_simp
                           with_reducible rfl
                          rotate_left
                          ·simp only [Act.put, List.setIfInBounds_toArray, List.set_cons_zero, List.set_cons_succ, i64_w, i32_w]
                           rfl
                          refine pure_ (i := 8) (N := some 82) (v := ?_) (a' := ?_) #[true, false, true, true, true, true, true, true, true, false] rfl rfl (any_of HT_.out (by kernel_rfl)) (fun _ _ _ h => h) (Or.inl ⟨by rfl, ?_⟩) ?_ ?_
                          rotate_left
                          ·intro w'
                           go_simp
                           with_reducible rfl
                          rotate_left
                          ·simp only [Act.put, List.setIfInBounds_toArray, List.set_cons_zero, List.set_cons_succ, i64_w, i32_w]
                           rfl
                          refine one_ (i := 1) (N := some 75) #[true, true, true, true, true, true, true, true, true, false] rfl rfl (one_of HT_.out (by kernel_rfl)) (by decide) (fun K hK => ?_)
                          refine goes_ Tryd.func46 (by kernel_rfl) rfl #[.int .u64 x9_23] (by rfl) rfl rfl (by (try simp only [List.map_toArray, List.map_cons, List.map_nil]); first | done | rfl | (simp only [List.length_drop, List.length_take]; rfl)) ?_
                          with_reducible refine (rivuletref01_Put.calls kj23 x9_23 t140 _ A36.out).mono ?_
                          rintro e w44 ⟨rfl, hb⟩
                          refine ⟨_, rfl, ?_⟩
                          have n0_ := Aside0.mk (below_step (by repeat (first | (with_reducible first | exact HB.out | apply below_alloc | apply pw_below_drewN | apply below_drew1) | exact HB.out)) hb)
                          clear HB
                          have HB := n0_
                          clear n0_
                          (try clear hb)
                          (try clear hb2)
                          (try clear hk)
                          (try clear hi)
                          refine hK.out _ _ trivial (fun hHeld => ?_)
                          clear hK K
                          refine norm_ (a' := ?_) ?_ ?_
                          rotate_left
                          ·show Act.put _ (some 75) _ = _
                           simp only [Act.put, List.setIfInBounds_toArray, List.set_cons_zero, List.set_cons_succ, i64_w, i32_w]
                           rfl
                          refine pure_ (i := 9) (N := some 83) (v := ?_) (a' := ?_) (List.toArray (List.replicate 10 true)) rfl rfl (any_of HT_.out (by kernel_rfl)) (fun _ _ _ h => h) (Or.inl ⟨by rfl, ?_⟩) ?_ ?_
                          rotate_left
                          ·intro w'
                           go_simp
                           with_reducible rfl
                          rotate_left
                          ·simp only [Act.put, List.setIfInBounds_toArray, List.set_cons_zero, List.set_cons_succ, i64_w, i32_w]
                           rfl
                          refine done_ (done_of HT_.out (by kernel_rfl)) ?_
                          try go_wp2
                          go_ret3
                          exact ⟨by first | rfl | (simp [errW_none, errW_some] <;> rfl) | (simp [*, errW_none, errW_some] <;> rfl), by repeat (first | (with_reducible first | exact HB.out | apply below_alloc | apply pw_below_drewN | apply below_drew1) | exact HB.out)⟩
                        ·rw [if_neg c39] at H
                         exact absurd H (by simp)
                       ·rw [if_neg c38] at H
                        exact absurd H (by simp)
                      ·rw [if_neg c37] at H
                       exact absurd H (by simp)
      ·rw [if_neg c8] at H
       exact absurd H (by simp)
     ·rw [if_neg c7] at H
      exact absurd H (by simp)
end Go.Proofs.YtjjimkmbbifbjaaDoor.Pv
end
section
namespace Go.Proofs.YtjjimkmbbifbjaaDoor.Pv
open Go.RowKit Go.Proofs.YtjjimkmbbifbjaaDoorW.PrintWords Go.Proofs.YtjjimkmbbifbjaaDoorW.PrintLast Go.Proofs.YtjjimkmbbifbjaaDoorW.PrintMore
attribute [local go_sem] max2_int min2_int max_two min_two max_three min_three max_four min_four
set_option linter.unusedVariables false
set_option linter.unusedSimpArgs false
def rivuletref01_Cut.f (k : Nat) (a0 : ByteArray) (a1 : Int) : Option (ByteArray × Int × Int) := (rivuletref01_Get.f k a0 a1).bind fun bt141 => (if bt141.2.2 = 0 then (if bt141.1 > 65536 then (some ((⟨#[]⟩ : ByteArray), 0, 2)) else (if (wrap64 (bt141.2.1 + (wrap64 (bt141.1)))) > (a0.size : Int) then (some ((⟨#[]⟩ : ByteArray), 0, 3)) else (if 0 ≤ bt141.2.1 then (if bt141.2.1 ≤ (wrap64 (bt141.2.1 + (wrap64 (bt141.1)))) then (if (wrap64 (bt141.2.1 + (wrap64 (bt141.1)))) ≤ (a0.size : Int) then (some (a0.extract (bt141.2.1 : Int).toNat ((wrap64 (bt141.2.1 + (wrap64 (bt141.1)))) : Int).toNat, wrap64 (bt141.2.1 + (wrap64 (bt141.1))), 0)) else (none)) else (none)) else (none)))) else (some ((⟨#[]⟩ : ByteArray), 0, bt141.2.2)))
set_option maxHeartbeats 8000000 in
set_option maxRecDepth 100000 in
theorem rivuletref01_Cut.calls (k : Nat) (a0 : ByteArray) (a1 : Int) (r1 : ByteArray) (r2 : Int) (r3 : Int) (w : World) (h : rivuletref01_Cut.f k a0 a1 = some (r1, r2, r3)) :
  Calls Tryd.prog 68 #[.string a0, .int .i64 a1] w fun e w' => e = .returned (.tuple #[.string r1, .int .i64 r2, .int .i64 r3]) ∧ Below w.heap.size w w' := by
 have HB := Aside0.mk (Below.refl w.heap.size w)
 have H : ((rivuletref01_Get.f k a0 a1).bind fun bt141 => (if bt141.2.2 = 0 then (if bt141.1 > 65536 then (some ((⟨#[]⟩ : ByteArray), 0, 2)) else (if (wrap64 (bt141.2.1 + (wrap64 (bt141.1)))) > (a0.size : Int) then (some ((⟨#[]⟩ : ByteArray), 0, 3)) else (if 0 ≤ bt141.2.1 then (if bt141.2.1 ≤ (wrap64 (bt141.2.1 + (wrap64 (bt141.1)))) then (if (wrap64 (bt141.2.1 + (wrap64 (bt141.1)))) ≤ (a0.size : Int) then (some (a0.extract (bt141.2.1 : Int).toNat ((wrap64 (bt141.2.1 + (wrap64 (bt141.1)))) : Int).toNat, wrap64 (bt141.2.1 + (wrap64 (bt141.1))), 0)) else (none)) else (none)) else (none)))) else (some ((⟨#[]⟩ : ByteArray), 0, bt141.2.2)))) = some (r1, r2, r3) := h
 clear h
 replace H := Option.bind_eq_some_iff.mp H
 obtain ⟨⟨t141, t142, t143⟩, A30, H⟩ := H
 replace H : (if t143 = 0 then (if t141 > 65536 then (some ((⟨#[]⟩ : ByteArray), 0, 2)) else (if (wrap64 (t142 + (wrap64 (t141)))) > (a0.size : Int) then (some ((⟨#[]⟩ : ByteArray), 0, 3)) else (if 0 ≤ t142 then (if t142 ≤ (wrap64 (t142 + (wrap64 (t141)))) then (if (wrap64 (t142 + (wrap64 (t141)))) ≤ (a0.size : Int) then (some (a0.extract (t142 : Int).toNat ((wrap64 (t142 + (wrap64 (t141)))) : Int).toNat, wrap64 (t142 + (wrap64 (t141))), 0)) else (none)) else (none)) else (none)))) else (some ((⟨#[]⟩ : ByteArray), 0, t143))) = some (r1, r2, r3) := H
 have A3 := Aside0.mk A30
 clear A30
 by_cases c4 : t143 = 0
 ·rw [if_pos c4] at H
  have c4b0 : (t143 == 0) = true := beq_iff_eq.mpr c4
  have c4b1 : (t143 != 0) = false := bne_eq_false_iff_eq.mpr c4
  clear c4
  by_cases c5 : t141 > 65536
  ·rw [if_pos c5] at H
   have c5b0 : decide (65536 < t141) = true := decide_eq_true c5
   clear c5
   simp only [Option.some.injEq, Prod.mk.injEq] at H
   obtain ⟨rfl, rfl, rfl⟩ := H
   go_enter Tryd.func68, Tryd.ntmps68
   go_wp2_with (first | ((with_reducible refine gate_callee (f := 54) rfl ?_); refine goesL_ (some 13) rfl rfl Tryd.func54 (by kernel_rfl) rfl #[.string a0, .int .i64 a1] rfl (by (try simp only [List.map_toArray, List.map_cons, List.map_nil]); first | done | rfl | (simp only [List.length_drop, List.length_take]; rfl)) ?_; (with_reducible refine (rivuletref01_Get.calls k a0 a1 t141 t142 t143 _ A3.out).mono ?_); rintro e w6 ⟨rfl, hb⟩; refine ⟨_, rfl, ?_⟩; have n0_ := Aside0.mk (below_step (by repeat (first | (with_reducible first | exact HB.out | apply below_alloc | apply pw_below_drewN | apply below_drew1) | exact HB.out)) hb); clear HB; have HB := n0_; clear n0_; (try clear hb); (try clear hb2); (try clear hk); (try clear hi)))
   go_ret3
   exact ⟨by first | rfl | (simp [errW_none, errW_some] <;> rfl) | (simp [*, errW_none, errW_some] <;> rfl), by repeat (first | (with_reducible first | exact HB.out | apply below_alloc | apply pw_below_drewN | apply below_drew1) | exact HB.out)⟩
  ·rw [if_neg c5] at H
   have c5b0 : decide (65536 < t141) = false := decide_eq_false c5
   clear c5
   by_cases c7 : (wrap64 (t142 + (wrap64 (t141)))) > (a0.size : Int)
   ·rw [if_pos c7] at H
    have c7b0 : decide ((a0.size : Int) < (wrap64 (t142 + (wrap64 (t141))))) = true := decide_eq_true c7
    clear c7
    simp only [Option.some.injEq, Prod.mk.injEq] at H
    obtain ⟨rfl, rfl, rfl⟩ := H
    go_enter Tryd.func68, Tryd.ntmps68
    go_wp2_with (first | ((with_reducible refine gate_callee (f := 54) rfl ?_); refine goesL_ (some 13) rfl rfl Tryd.func54 (by kernel_rfl) rfl #[.string a0, .int .i64 a1] rfl (by (try simp only [List.map_toArray, List.map_cons, List.map_nil]); first | done | rfl | (simp only [List.length_drop, List.length_take]; rfl)) ?_; (with_reducible refine (rivuletref01_Get.calls k a0 a1 t141 t142 t143 _ A3.out).mono ?_); rintro e w8 ⟨rfl, hb⟩; refine ⟨_, rfl, ?_⟩; have n0_ := Aside0.mk (below_step (by repeat (first | (with_reducible first | exact HB.out | apply below_alloc | apply pw_below_drewN | apply below_drew1) | exact HB.out)) hb); clear HB; have HB := n0_; clear n0_; (try clear hb); (try clear hb2); (try clear hk); (try clear hi)))
    go_ret3
    exact ⟨by first | rfl | (simp [errW_none, errW_some] <;> rfl) | (simp [*, errW_none, errW_some] <;> rfl), by repeat (first | (with_reducible first | exact HB.out | apply below_alloc | apply pw_below_drewN | apply below_drew1) | exact HB.out)⟩
   ·rw [if_neg c7] at H
    have c7b0 : decide ((a0.size : Int) < (wrap64 (t142 + (wrap64 (t141))))) = false := decide_eq_false c7
    clear c7
    by_cases c9 : 0 ≤ t142
    ·rw [if_pos c9] at H
     have c9b0 := eq_true c9
     have c9b1 : decide (0 ≤ t142) = true := decide_eq_true c9
     clear c9
     by_cases c10 : t142 ≤ (wrap64 (t142 + (wrap64 (t141))))
     ·rw [if_pos c10] at H
      have c10b0 := eq_true c10
      have c10b1 : decide (t142 ≤ (wrap64 (t142 + (wrap64 (t141))))) = true := decide_eq_true c10
      by_cases c11 : (wrap64 (t142 + (wrap64 (t141)))) ≤ (a0.size : Int)
      ·rw [if_pos c11] at H
       have c11b0 := eq_true c11
       have c11b1 : decide ((wrap64 (t142 + (wrap64 (t141)))) ≤ (a0.size : Int)) = true := decide_eq_true c11
       simp only [Option.some.injEq, Prod.mk.injEq] at H
       obtain ⟨rfl, rfl, rfl⟩ := H
       go_enter Tryd.func68, Tryd.ntmps68
       go_wp2_with (first | ((with_reducible refine gate_callee (f := 54) rfl ?_); refine goesL_ (some 13) rfl rfl Tryd.func54 (by kernel_rfl) rfl #[.string a0, .int .i64 a1] rfl (by (try simp only [List.map_toArray, List.map_cons, List.map_nil]); first | done | rfl | (simp only [List.length_drop, List.length_take]; rfl)) ?_; (with_reducible refine (rivuletref01_Get.calls k a0 a1 t141 t142 t143 _ A3.out).mono ?_); rintro e w12 ⟨rfl, hb⟩; refine ⟨_, rfl, ?_⟩; have n0_ := Aside0.mk (below_step (by repeat (first | (with_reducible first | exact HB.out | apply below_alloc | apply pw_below_drewN | apply below_drew1) | exact HB.out)) hb); clear HB; have HB := n0_; clear n0_; (try clear hb); (try clear hb2); (try clear hk); (try clear hi)))
       go_ret3
       exact ⟨by first | rfl | (simp [errW_none, errW_some] <;> rfl) | (simp [*, errW_none, errW_some] <;> rfl), by repeat (first | (with_reducible first | exact HB.out | apply below_alloc | apply pw_below_drewN | apply below_drew1) | exact HB.out)⟩
      ·rw [if_neg c11] at H
       exact absurd H (by simp)
     ·rw [if_neg c10] at H
      exact absurd H (by simp)
    ·rw [if_neg c9] at H
     exact absurd H (by simp)
 ·rw [if_neg c4] at H
  have c4b0 : (t143 == 0) = false := beq_eq_false_iff_ne.mpr c4
  have c4b1 : (t143 != 0) = true := bne_iff_ne.mpr c4
  simp only [Option.some.injEq, Prod.mk.injEq] at H
  obtain ⟨rfl, rfl, rfl⟩ := H
  go_enter Tryd.func68, Tryd.ntmps68
  go_wp2_with (first | ((with_reducible refine gate_callee (f := 54) rfl ?_); refine goesL_ (some 13) rfl rfl Tryd.func54 (by kernel_rfl) rfl #[.string a0, .int .i64 a1] rfl (by (try simp only [List.map_toArray, List.map_cons, List.map_nil]); first | done | rfl | (simp only [List.length_drop, List.length_take]; rfl)) ?_; (with_reducible refine (rivuletref01_Get.calls k a0 a1 t141 t142 t143 _ A3.out).mono ?_); rintro e w13 ⟨rfl, hb⟩; refine ⟨_, rfl, ?_⟩; have n0_ := Aside0.mk (below_step (by repeat (first | (with_reducible first | exact HB.out | apply below_alloc | apply pw_below_drewN | apply below_drew1) | exact HB.out)) hb); clear HB; have HB := n0_; clear n0_; (try clear hb); (try clear hb2); (try clear hk); (try clear hi)))
  go_ret3
  exact ⟨by first | rfl | (simp [errW_none, errW_some] <;> rfl) | (simp [*, errW_none, errW_some] <;> rfl), by repeat (first | (with_reducible first | exact HB.out | apply below_alloc | apply pw_below_drewN | apply below_drew1) | exact HB.out)⟩
end Go.Proofs.YtjjimkmbbifbjaaDoor.Pv
end
