import Derived.Test.YtjjimkmbbifbjaaDoorKPuts13
section
namespace Go.Proofs.YtjjimkmbbifbjaaDoor.Pv
open Go.RowKit Go.Proofs.YtjjimkmbbifbjaaDoorW.PrintWords Go.Proofs.YtjjimkmbbifbjaaDoorW.PrintLast Go.Proofs.YtjjimkmbbifbjaaDoorW.PrintMore
attribute [local go_sem] max2_int min2_int max_two min_two max_three min_three max_four min_four
set_option linter.unusedVariables false
set_option linter.unusedSimpArgs false
def rivuletref23_Name.f (a0 : Int) : Option (ByteArray) := if a0 < 0 then (some ⟨#[]⟩) else (if a0 > 10 then (some ⟨#[]⟩) else ((some (([(⟨#[112, 117, 98, 108, 105, 115, 104]⟩ : ByteArray), (⟨#[106, 111, 105, 110]⟩ : ByteArray), (⟨#[108, 101, 97, 118, 101]⟩ : ByteArray), (⟨#[97, 115, 107]⟩ : ByteArray), (⟨#[116, 105, 99, 107]⟩ : ByteArray), (⟨#[99, 111, 109, 101]⟩ : ByteArray), (⟨#[108, 111, 115, 101]⟩ : ByteArray), (⟨#[116, 119, 105, 99, 101]⟩ : ByteArray), (⟨#[115, 112, 111, 105, 108]⟩ : ByteArray), (⟨#[115, 116, 111, 112]⟩ : ByteArray), (⟨#[115, 116, 97, 114, 116]⟩ : ByteArray)] : List ByteArray) : List ByteArray)).bind fun y261 => (if 0 ≤ a0 then (if a0 < (y261.length : Int) then (some (rdOf ByteArray.empty y261 a0)) else (none)) else (none))))
set_option maxHeartbeats 8000000 in
set_option maxRecDepth 100000 in
theorem rivuletref23_Name.calls (a0 : Int) (r : ByteArray) (w : World) (h : rivuletref23_Name.f a0 = some r) :
  Calls Tryd.prog 18 #[.int .i64 a0] w fun e w' => e = .returned (.string r) ∧ Below w.heap.size w w' := by
 have HB := Aside0.mk (Below.refl w.heap.size w)
 have H : (if a0 < 0 then (some ⟨#[]⟩) else (if a0 > 10 then (some ⟨#[]⟩) else ((some (([(⟨#[112, 117, 98, 108, 105, 115, 104]⟩ : ByteArray), (⟨#[106, 111, 105, 110]⟩ : ByteArray), (⟨#[108, 101, 97, 118, 101]⟩ : ByteArray), (⟨#[97, 115, 107]⟩ : ByteArray), (⟨#[116, 105, 99, 107]⟩ : ByteArray), (⟨#[99, 111, 109, 101]⟩ : ByteArray), (⟨#[108, 111, 115, 101]⟩ : ByteArray), (⟨#[116, 119, 105, 99, 101]⟩ : ByteArray), (⟨#[115, 112, 111, 105, 108]⟩ : ByteArray), (⟨#[115, 116, 111, 112]⟩ : ByteArray), (⟨#[115, 116, 97, 114, 116]⟩ : ByteArray)] : List ByteArray) : List ByteArray)).bind fun y261 => (if 0 ≤ a0 then (if a0 < (y261.length : Int) then (some (rdOf ByteArray.empty y261 a0)) else (none)) else (none))))) = some r := h
 clear h
 by_cases c2 : a0 < 0
 ·rw [if_pos c2] at H
  have c2b0 : decide (a0 < 0) = true := decide_eq_true c2
  clear c2
  obtain rfl := Option.some.inj H
  go_enter Tryd.func18, Tryd.ntmps18
  go_wp2
  go_ret
  exact ⟨by first | rfl | (simp [errW_none, errW_some] <;> rfl) | (simp [*, errW_none, errW_some] <;> rfl), by repeat (first | (with_reducible first | exact HB.out | apply below_alloc | apply pw_below_drewN | apply below_drew1) | exact HB.out)⟩
 ·rw [if_neg c2] at H
  have c2b0 : decide (a0 < 0) = false := decide_eq_false c2
  clear c2
  by_cases c3 : a0 > 10
  ·rw [if_pos c3] at H
   have c3b0 : decide (10 < a0) = true := decide_eq_true c3
   clear c3
   obtain rfl := Option.some.inj H
   go_enter Tryd.func18, Tryd.ntmps18
   go_wp2
   go_ret
   exact ⟨by first | rfl | (simp [errW_none, errW_some] <;> rfl) | (simp [*, errW_none, errW_some] <;> rfl), by repeat (first | (with_reducible first | exact HB.out | apply below_alloc | apply pw_below_drewN | apply below_drew1) | exact HB.out)⟩
  ·rw [if_neg c3] at H
   have c3b0 : decide (10 < a0) = false := decide_eq_false c3
   clear c3
   obtain ⟨y261, hy261⟩ : ∃ y_ : List ByteArray, y_ = (([(⟨#[112, 117, 98, 108, 105, 115, 104]⟩ : ByteArray), (⟨#[106, 111, 105, 110]⟩ : ByteArray), (⟨#[108, 101, 97, 118, 101]⟩ : ByteArray), (⟨#[97, 115, 107]⟩ : ByteArray), (⟨#[116, 105, 99, 107]⟩ : ByteArray), (⟨#[99, 111, 109, 101]⟩ : ByteArray), (⟨#[108, 111, 115, 101]⟩ : ByteArray), (⟨#[116, 119, 105, 99, 101]⟩ : ByteArray), (⟨#[115, 112, 111, 105, 108]⟩ : ByteArray), (⟨#[115, 116, 111, 112]⟩ : ByteArray), (⟨#[115, 116, 97, 114, 116]⟩ : ByteArray)] : List ByteArray)) := ⟨_, rfl⟩
   replace H : (if 0 ≤ a0 then (if a0 < (y261.length : Int) then (some (rdOf ByteArray.empty y261 a0)) else (none)) else (none)) = some r := by first | (rw [hy261]; with_reducible exact H) | (have H2_ := (Option.bind_some _ _).symm.trans H; rw [hy261]; with_reducible exact H2_) | (have H2_ := (Option.bind_some _ _).symm.trans H; with_reducible exact H2_) | with_reducible exact H | (rw [hy261]; exact H) | exact H
   have Ny261 := Aside0.mk hy261
   clear hy261
   by_cases c4 : 0 ≤ a0
   ·rw [if_pos c4] at H
    have c4b0 : decide (0 ≤ a0) = true := decide_eq_true c4
    clear c4
    by_cases c5 : a0 < (y261.length : Int)
    ·rw [if_pos c5] at H
     have c5b0 : decide (a0 < (y261.length : Int)) = true := decide_eq_true c5
     clear c5
     obtain rfl := Option.some.inj H
     go_enter Tryd.func18, Tryd.ntmps18
     go_wp2_with (first | ((with_reducible refine gate_dst (N := 9) rfl ?_); refine Kd.R_lit Kd.string _ 9 ?hg (N := 9) ?hd (xs := ([(⟨#[112, 117, 98, 108, 105, 115, 104]⟩ : ByteArray), (⟨#[106, 111, 105, 110]⟩ : ByteArray), (⟨#[108, 101, 97, 118, 101]⟩ : ByteArray), (⟨#[97, 115, 107]⟩ : ByteArray), (⟨#[116, 105, 99, 107]⟩ : ByteArray), (⟨#[99, 111, 109, 101]⟩ : ByteArray), (⟨#[108, 111, 115, 101]⟩ : ByteArray), (⟨#[116, 119, 105, 99, 101]⟩ : ByteArray), (⟨#[115, 112, 111, 105, 108]⟩ : ByteArray), (⟨#[115, 116, 111, 112]⟩ : ByteArray), (⟨#[115, 116, 97, 114, 116]⟩ : ByteArray)] : List ByteArray)) (inner := [.string (⟨#[112, 117, 98, 108, 105, 115, 104]⟩ : ByteArray), .string (⟨#[106, 111, 105, 110]⟩ : ByteArray), .string (⟨#[108, 101, 97, 118, 101]⟩ : ByteArray), .string (⟨#[97, 115, 107]⟩ : ByteArray), .string (⟨#[116, 105, 99, 107]⟩ : ByteArray), .string (⟨#[99, 111, 109, 101]⟩ : ByteArray), .string (⟨#[108, 111, 115, 101]⟩ : ByteArray), .string (⟨#[116, 119, 105, 99, 101]⟩ : ByteArray), .string (⟨#[115, 112, 111, 105, 108]⟩ : ByteArray), .string (⟨#[115, 116, 111, 112]⟩ : ByteArray), .string (⟨#[115, 116, 97, 114, 116]⟩ : ByteArray)]) (ok := fun _ => True) (okp := fun _ => True) ?hr ?hp (fun _ hk => hk) trivial (Below.refl _ _) (Nat.le_refl _) (by simp) ?_; (case hd => rfl); (case hg => rfl); (case hr => first | (go_simp; done) | (go_simp; rfl)); (case hp => exact (Reps.one (show Kd.M Kd.string _ _ _ ⟨#[112, 117, 98, 108, 105, 115, 104]⟩ [.string (⟨#[112, 117, 98, 108, 105, 115, 104]⟩ : ByteArray)] from rfl) (Reps.one (show Kd.M Kd.string _ _ _ ⟨#[106, 111, 105, 110]⟩ [.string (⟨#[106, 111, 105, 110]⟩ : ByteArray)] from rfl) (Reps.one (show Kd.M Kd.string _ _ _ ⟨#[108, 101, 97, 118, 101]⟩ [.string (⟨#[108, 101, 97, 118, 101]⟩ : ByteArray)] from rfl) (Reps.one (show Kd.M Kd.string _ _ _ ⟨#[97, 115, 107]⟩ [.string (⟨#[97, 115, 107]⟩ : ByteArray)] from rfl) (Reps.one (show Kd.M Kd.string _ _ _ ⟨#[116, 105, 99, 107]⟩ [.string (⟨#[116, 105, 99, 107]⟩ : ByteArray)] from rfl) (Reps.one (show Kd.M Kd.string _ _ _ ⟨#[99, 111, 109, 101]⟩ [.string (⟨#[99, 111, 109, 101]⟩ : ByteArray)] from rfl) (Reps.one (show Kd.M Kd.string _ _ _ ⟨#[108, 111, 115, 101]⟩ [.string (⟨#[108, 111, 115, 101]⟩ : ByteArray)] from rfl) (Reps.one (show Kd.M Kd.string _ _ _ ⟨#[116, 119, 105, 99, 101]⟩ [.string (⟨#[116, 119, 105, 99, 101]⟩ : ByteArray)] from rfl) (Reps.one (show Kd.M Kd.string _ _ _ ⟨#[115, 112, 111, 105, 108]⟩ [.string (⟨#[115, 112, 111, 105, 108]⟩ : ByteArray)] from rfl) (Reps.one (show Kd.M Kd.string _ _ _ ⟨#[115, 116, 111, 112]⟩ [.string (⟨#[115, 116, 111, 112]⟩ : ByteArray)] from rfl) (Reps.one (show Kd.M Kd.string _ _ _ ⟨#[115, 116, 97, 114, 116]⟩ [.string (⟨#[115, 116, 97, 114, 116]⟩ : ByteArray)] from rfl) (Reps.none _ _))))))))))))); intro v262 w6 ho7 hb hg_ hnew_; clear hg_ hnew_; (first | rw [← Ny261.out] at ho7 | (simp only [Int.reduceToNat] at ho7; rw [← Ny261.out] at ho7)); have n0_ := Aside0.mk (Kd.R_lower ho7 (below_size (by repeat (first | (with_reducible first | exact HB.out | apply below_alloc | apply pw_below_drewN | apply below_drew1) | exact HB.out)))); have n1_ := Aside0.mk (below_step (by repeat (first | (with_reducible first | exact HB.out | apply below_alloc | apply pw_below_drewN | apply below_drew1) | exact HB.out)) hb); clear HB; have HO263 := n0_; have HB := n1_; clear n0_ n1_; clear hb ho7; obtain ⟨Ao8, co8, eo8⟩ := Kd.R_slice HO263.out; subst eo8; have p264 : 0 ≤ (a0 : Int) := of_decide_eq_true (by first | (with_reducible assumption) | assumption); have q264 : a0 < (y261.length : Int) := of_decide_eq_true (by first | (with_reducible assumption) | assumption); obtain ⟨ad264, e264, hx264_0⟩ := Kd.at_string (Kd.R_reads' HO263.out).2.2 a0 p264 q264; cases e264; replace p264 := eq_true p264; replace q264 := eq_true q264))
     go_ret
     exact ⟨by first | rfl | (simp [errW_none, errW_some] <;> rfl) | (simp [*, errW_none, errW_some] <;> rfl), by repeat (first | (with_reducible first | exact HB.out | apply below_alloc | apply pw_below_drewN | apply below_drew1) | exact HB.out)⟩
    ·rw [if_neg c5] at H
     exact absurd H (by simp)
   ·rw [if_neg c4] at H
    exact absurd H (by simp)
end Go.Proofs.YtjjimkmbbifbjaaDoor.Pv
end
section
namespace Go.Proofs.YtjjimkmbbifbjaaDoor.Pv
open Go.RowKit Go.Proofs.YtjjimkmbbifbjaaDoorW.PrintWords Go.Proofs.YtjjimkmbbifbjaaDoorW.PrintLast Go.Proofs.YtjjimkmbbifbjaaDoorW.PrintMore
attribute [local go_sem] max2_int min2_int max_two min_two max_three min_three max_four min_four
set_option linter.unusedVariables false
set_option linter.unusedSimpArgs false
mutual
def rivuletref06_Digits.j0 : Nat → Int → Int → Option (ByteArray)
 | 0, _, _ => none
 | k + 1, x0, x3 => (some (([(wrap64 (48 + x3)) % 256] : List Int) : List Int)).bind fun y265 => (if (wrap64 (Int.tdiv x0 10)) = 0 then (if x0 < 0 then (if 1 + (strOfNums y265).size ≤ 9223372036854775807 then (some ((⟨#[45]⟩ : ByteArray) ++ (strOfNums y265))) else (none)) else (some (strOfNums y265))) else ((rivuletref06_Digits.f k (wrap64 (Int.tdiv x0 10))).bind fun t268 => (if t268.size + (strOfNums y265).size ≤ 9223372036854775807 then (some (t268 ++ (strOfNums y265))) else (none))))
def rivuletref06_Digits.f : Nat → Int → Option (ByteArray)
 | 0, _ => none
 | k + 1, a0 => if (Int.tmod a0 10) < 0 then (rivuletref06_Digits.j0 k a0 (wrap64 (-(Int.tmod a0 10)))) else (rivuletref06_Digits.j0 k a0 (Int.tmod a0 10))
end
set_option maxHeartbeats 8000000 in
set_option maxRecDepth 100000 in
theorem rivuletref06_Digits.calls (k : Nat) : ∀ (a0 : Int) (r : ByteArray) (w : World) (h : rivuletref06_Digits.f k a0 = some r),
  Calls Tryd.prog 50 #[.int .i64 a0] w fun e w' => e = .returned (.string r) ∧ Below w.heap.size w w' := by
 induction k using Nat.strongRecOn with
 | _ k ih =>
 intro a0 r w h
 cases k with
 | zero => exact absurd h (by simp [rivuletref06_Digits.f])
 | succ k =>
 simp only [rivuletref06_Digits.f] at h
 have HB := Aside0.mk (Below.refl w.heap.size w)
 have H : (if (Int.tmod a0 10) < 0 then (rivuletref06_Digits.j0 k a0 (wrap64 (-(Int.tmod a0 10)))) else (rivuletref06_Digits.j0 k a0 (Int.tmod a0 10))) = some r := h
 clear h
 have HC2 := Aside0.mk H
 clear H
 go_enter Tryd.func50, Tryd.ntmps50
 go_upto_if 8 with (fail)
 go_cut [3] (fun v3 wc => ∃ (kq : Nat) (x3_1 : Int), v3 = .int .i64 x3_1 ∧ Aside0 (rivuletref06_Digits.j0 kq a0 x3_1 = some r) ∧ Aside0 (kq ≤ k) ∧ Aside0 (Below w.heap.size w wc))
 case first =>
  have H := HC2.out
  clear HC2
  by_cases c3 : (Int.tmod a0 10) < 0
  ·rw [if_pos c3] at H
   have c3b0 : decide ((Int.tmod a0 10) < 0) = true := decide_eq_true c3
   clear c3
   (first | rw [c3b0] | (simp only [i64_w, i32_w]; rw [c3b0]) | skip)
   have H' := Aside0.mk H
   clear H
   go_wp2
   go_meet
   case rel => exact ⟨_, (wrap64 (-(Int.tmod a0 10))), (by first | rfl | (simp; done) | (simp [*]; done)), H', ⟨by first | omega | exact Nat.le_refl _⟩, ⟨by repeat (first | (with_reducible first | exact HB.out | apply below_alloc | apply pw_below_drewN | apply below_drew1) | exact HB.out)⟩⟩
  ·rw [if_neg c3] at H
   have c3b0 : decide ((Int.tmod a0 10) < 0) = false := decide_eq_false c3
   clear c3
   (first | rw [c3b0] | (simp only [i64_w, i32_w]; rw [c3b0]) | skip)
   have H' := Aside0.mk H
   clear H
   go_wp2
   go_meet
   case rel => exact ⟨_, (Int.tmod a0 10), (by first | rfl | (simp; done) | (simp [*]; done)), H', ⟨by first | omega | exact Nat.le_refl _⟩, ⟨by repeat (first | (with_reducible first | exact HB.out | apply below_alloc | apply pw_below_drewN | apply below_drew1) | exact HB.out)⟩⟩
 case rest =>
  clear HC2
  try clear p2
  try clear c3
  try clear c3b0
  obtain ⟨kq, x3_1, rfl, HA, HJ1, HB⟩ := hcut
  cases kq with
  | zero => exact absurd HA.out (by simp [rivuletref06_Digits.j0])
  | succ kj1 =>
   have H := HA.out
   clear HA
   simp only [rivuletref06_Digits.j0] at H
   obtain ⟨y265, hy265⟩ : ∃ y_ : List Int, y_ = (([(wrap64 (48 + x3_1)) % 256] : List Int)) := ⟨_, rfl⟩
   replace H : (if (wrap64 (Int.tdiv a0 10)) = 0 then (if a0 < 0 then (if 1 + (strOfNums y265).size ≤ 9223372036854775807 then (some ((⟨#[45]⟩ : ByteArray) ++ (strOfNums y265))) else (none)) else (some (strOfNums y265))) else ((rivuletref06_Digits.f kj1 (wrap64 (Int.tdiv a0 10))).bind fun t268 => (if t268.size + (strOfNums y265).size ≤ 9223372036854775807 then (some (t268 ++ (strOfNums y265))) else (none)))) = some r := by first | (rw [hy265]; with_reducible exact H) | (have H2_ := (Option.bind_some _ _).symm.trans H; rw [hy265]; with_reducible exact H2_) | (have H2_ := (Option.bind_some _ _).symm.trans H; with_reducible exact H2_) | with_reducible exact H | (rw [hy265]; exact H) | exact H
   have Ny265 := Aside0.mk hy265
   clear hy265
   by_cases c4 : (wrap64 (Int.tdiv a0 10)) = 0
   ·rw [if_pos c4] at H
    have c4b0 : ((wrap64 (Int.tdiv a0 10)) == 0) = true := beq_iff_eq.mpr c4
    have c4b1 : ((wrap64 (Int.tdiv a0 10)) != 0) = false := bne_eq_false_iff_eq.mpr c4
    clear c4
    by_cases c5 : a0 < 0
    ·rw [if_pos c5] at H
     have c5b0 : decide (a0 < 0) = true := decide_eq_true c5
     clear c5
     by_cases c6 : 1 + (strOfNums y265).size ≤ 9223372036854775807
     ·rw [if_pos c6] at H
      have c6b0 := eq_true c6
      have c6b1 : decide (1 + (strOfNums y265).size ≤ 9223372036854775807) = true := decide_eq_true c6
      try have c6b2 : (9223372036854775807 < 1 + (strOfNums y265).size) = False := eq_false (Nat.not_lt.2 c6)
      obtain rfl := Option.some.inj H
      go_wp2_with (first | ((with_reducible refine gate_dst (N := 14) rfl ?_); refine Kd.R_lit (Kd.int .u8) _ 5 ?hg (N := 14) ?hd (xs := ([(wrap64 (48 + x3_1)) % 256] : List Int)) (inner := [.int .u8 ((wrap64 (48 + x3_1)) % 256)]) (ok := fun _ => True) (okp := fun _ => True) ?hr ?hp (fun _ hk => hk) trivial (Below.refl _ _) (Nat.le_refl _) (by simp) ?_; (case hd => rfl); (case hg => rfl); (case hr => first | (go_simp; done) | (go_simp; rfl)); (case hp => exact (Reps.one (show Kd.M (Kd.int .u8) _ _ _ ((wrap64 (48 + x3_1)) % 256) [.int .u8 ((wrap64 (48 + x3_1)) % 256)] from rfl) (Reps.none _ _))); intro v266 w7 ho8 hb hg_ hnew_; clear hg_ hnew_; (first | rw [← Ny265.out] at ho8 | (simp only [Int.reduceToNat] at ho8; rw [← Ny265.out] at ho8)); have n0_ := Aside0.mk (Kd.R_lower ho8 (below_size (by repeat (first | (with_reducible first | exact HB.out | apply below_alloc | apply pw_below_drewN | apply below_drew1) | exact HB.out)))); have n1_ := Aside0.mk (below_step (by repeat (first | (with_reducible first | exact HB.out | apply below_alloc | apply pw_below_drewN | apply below_drew1) | exact HB.out)) hb); clear HB; have HO267 := n0_; have HB := n1_; clear n0_ n1_; clear hb ho8; have hcv9 := own_string (P := Tryd.prog) Tryd.underlying47 Tryd.underlying5 Tryd.underlying9 (Kd.own_of_R HO267.out)))
      go_ret
      exact ⟨by first | rfl | (simp [errW_none, errW_some] <;> rfl) | (simp [*, errW_none, errW_some] <;> rfl), by repeat (first | (with_reducible first | exact HB.out | apply below_alloc | apply pw_below_drewN | apply below_drew1) | exact HB.out)⟩
     ·rw [if_neg c6] at H
      exact absurd H (by simp)
    ·rw [if_neg c5] at H
     have c5b0 : decide (a0 < 0) = false := decide_eq_false c5
     clear c5
     obtain rfl := Option.some.inj H
     go_wp2_with (first | ((with_reducible refine gate_dst (N := 14) rfl ?_); refine Kd.R_lit (Kd.int .u8) _ 5 ?hg (N := 14) ?hd (xs := ([(wrap64 (48 + x3_1)) % 256] : List Int)) (inner := [.int .u8 ((wrap64 (48 + x3_1)) % 256)]) (ok := fun _ => True) (okp := fun _ => True) ?hr ?hp (fun _ hk => hk) trivial (Below.refl _ _) (Nat.le_refl _) (by simp) ?_; (case hd => rfl); (case hg => rfl); (case hr => first | (go_simp; done) | (go_simp; rfl)); (case hp => exact (Reps.one (show Kd.M (Kd.int .u8) _ _ _ ((wrap64 (48 + x3_1)) % 256) [.int .u8 ((wrap64 (48 + x3_1)) % 256)] from rfl) (Reps.none _ _))); intro v266 w10 ho11 hb hg_ hnew_; clear hg_ hnew_; (first | rw [← Ny265.out] at ho11 | (simp only [Int.reduceToNat] at ho11; rw [← Ny265.out] at ho11)); have n0_ := Aside0.mk (Kd.R_lower ho11 (below_size (by repeat (first | (with_reducible first | exact HB.out | apply below_alloc | apply pw_below_drewN | apply below_drew1) | exact HB.out)))); have n1_ := Aside0.mk (below_step (by repeat (first | (with_reducible first | exact HB.out | apply below_alloc | apply pw_below_drewN | apply below_drew1) | exact HB.out)) hb); clear HB; have HO267 := n0_; have HB := n1_; clear n0_ n1_; clear hb ho11; have hcv12 := own_string (P := Tryd.prog) Tryd.underlying47 Tryd.underlying5 Tryd.underlying9 (Kd.own_of_R HO267.out)))
     go_ret
     exact ⟨by first | rfl | (simp [errW_none, errW_some] <;> rfl) | (simp [*, errW_none, errW_some] <;> rfl), by repeat (first | (with_reducible first | exact HB.out | apply below_alloc | apply pw_below_drewN | apply below_drew1) | exact HB.out)⟩
   ·rw [if_neg c4] at H
    have c4b0 : ((wrap64 (Int.tdiv a0 10)) == 0) = false := beq_eq_false_iff_ne.mpr c4
    have c4b1 : ((wrap64 (Int.tdiv a0 10)) != 0) = true := bne_iff_ne.mpr c4
    replace H := Option.bind_eq_some_iff.mp H
    obtain ⟨t268, A130, H⟩ := H
    replace H : (if t268.size + (strOfNums y265).size ≤ 9223372036854775807 then (some (t268 ++ (strOfNums y265))) else (none)) = some r := H
    have A13 := Aside0.mk A130
    clear A130
    by_cases c14 : t268.size + (strOfNums y265).size ≤ 9223372036854775807
    ·rw [if_pos c14] at H
     have c14b0 := eq_true c14
     have c14b1 : decide (t268.size + (strOfNums y265).size ≤ 9223372036854775807) = true := decide_eq_true c14
     try have c14b2 : (9223372036854775807 < t268.size + (strOfNums y265).size) = False := eq_false (Nat.not_lt.2 c14)
     obtain rfl := Option.some.inj H
     go_wp2_with (first | ((with_reducible refine gate_dst (N := 14) rfl ?_); refine Kd.R_lit (Kd.int .u8) _ 5 ?hg (N := 14) ?hd (xs := ([(wrap64 (48 + x3_1)) % 256] : List Int)) (inner := [.int .u8 ((wrap64 (48 + x3_1)) % 256)]) (ok := fun _ => True) (okp := fun _ => True) ?hr ?hp (fun _ hk => hk) trivial (Below.refl _ _) (Nat.le_refl _) (by simp) ?_; (case hd => rfl); (case hg => rfl); (case hr => first | (go_simp; done) | (go_simp; rfl)); (case hp => exact (Reps.one (show Kd.M (Kd.int .u8) _ _ _ ((wrap64 (48 + x3_1)) % 256) [.int .u8 ((wrap64 (48 + x3_1)) % 256)] from rfl) (Reps.none _ _))); intro v266 w15 ho16 hb hg_ hnew_; clear hg_ hnew_; (first | rw [← Ny265.out] at ho16 | (simp only [Int.reduceToNat] at ho16; rw [← Ny265.out] at ho16)); have n0_ := Aside0.mk (Kd.R_lower ho16 (below_size (by repeat (first | (with_reducible first | exact HB.out | apply below_alloc | apply pw_below_drewN | apply below_drew1) | exact HB.out)))); have n1_ := Aside0.mk (below_step (by repeat (first | (with_reducible first | exact HB.out | apply below_alloc | apply pw_below_drewN | apply below_drew1) | exact HB.out)) hb); clear HB; have HO267 := n0_; have HB := n1_; clear n0_ n1_; clear hb ho16; have hcv17 := own_string (P := Tryd.prog) Tryd.underlying47 Tryd.underlying5 Tryd.underlying9 (Kd.own_of_R HO267.out)) | ((with_reducible refine gate_callee (f := 50) rfl ?_); refine goesL_ (some 21) rfl rfl Tryd.func50 (by kernel_rfl) rfl #[.int .i64 (wrap64 (Int.tdiv a0 10))] rfl (by (try simp only [List.map_toArray, List.map_cons, List.map_nil]); first | done | rfl | (simp only [List.length_drop, List.length_take]; rfl)) ?_; (with_reducible refine (ih kj1 (by have := HJ1.out; omega) (wrap64 (Int.tdiv a0 10)) t268 _ A13.out).mono ?_); rintro e w18 ⟨rfl, hb⟩; refine ⟨_, rfl, ?_⟩; have n0_ := Aside0.mk (Kd.R_below (by (with_reducible repeat (first | apply Kd.R_alloc | apply Kd.R_drewN | apply Kd.R_drew)); exact HO267.out) hb); have n1_ := Aside0.mk (below_step (by repeat (first | (with_reducible first | exact HB.out | apply below_alloc | apply pw_below_drewN | apply below_drew1) | exact HB.out)) hb); clear HO267; clear HB; have HO267 := n0_; have HB := n1_; clear n0_ n1_; (try clear hb); (try clear hb2); (try clear hk); (try clear hi)))
     go_ret
     exact ⟨by first | rfl | (simp [errW_none, errW_some] <;> rfl) | (simp [*, errW_none, errW_some] <;> rfl), by repeat (first | (with_reducible first | exact HB.out | apply below_alloc | apply pw_below_drewN | apply below_drew1) | exact HB.out)⟩
    ·rw [if_neg c14] at H
     exact absurd H (by simp)
end Go.Proofs.YtjjimkmbbifbjaaDoor.Pv
end
