import Derived.Test.YtjjimkmbbifbjaaDoorKPuts13
import Derived.Test.YtjjimkmbbifbjaaDoorKPuts19
import Derived.Test.YtjjimkmbbifbjaaDoorKPuts17
namespace Go.Proofs.YtjjimkmbbifbjaaDoor.Pv
open Go.RowKit Go.Proofs.YtjjimkmbbifbjaaDoorW.PrintWords Go.Proofs.YtjjimkmbbifbjaaDoorW.PrintLast Go.Proofs.YtjjimkmbbifbjaaDoorW.PrintMore
attribute [local go_sem] max2_int min2_int max_two min_two max_three min_three max_four min_four
set_option linter.unusedVariables false
set_option linter.unusedSimpArgs false
attribute [local go_sem high] eqA23
mutual
def rivuletref23_Right.j0 : Nat → Bool → Int → Int → Int → Int → ByteArray → ByteArray → Bool → Int → Option (Bool)
 | 0, _, _, _, _, _, _, _, _, _ => none
 | k + 1, x16, x187000, x187001, x187002, x187003, x187004, x187005, x187006, x187007 => if x16 = true then (some false) else (if x187000 = 0 then ((rivuletref03_Right.f k x187004).bind fun t195 => (if t195 = true then (if x187000 = 3 then ((rivuletref03_Filter.f k x187004).bind fun t196 => (rivuletref23_Right.j1 k (!t196) x187000 x187001 x187002 x187003 x187004 x187005 x187006 x187007)) else (rivuletref23_Right.j1 k false x187000 x187001 x187002 x187003 x187004 x187005 x187006 x187007)) else (rivuletref23_Right.j1 k true x187000 x187001 x187002 x187003 x187004 x187005 x187006 x187007))) else (if x187000 = 3 then ((rivuletref03_Filter.f k x187004).bind fun t197 => (rivuletref23_Right.j1 k (!t197) x187000 x187001 x187002 x187003 x187004 x187005 x187006 x187007)) else (rivuletref23_Right.j1 k false x187000 x187001 x187002 x187003 x187004 x187005 x187006 x187007)))
def rivuletref23_Right.j1 : Nat → Bool → Int → Int → Int → Int → ByteArray → ByteArray → Bool → Int → Option (Bool)
 | 0, _, _, _, _, _, _, _, _, _ => none
 | k + 1, x36, x187000, x187001, x187002, x187003, x187004, x187005, x187006, x187007 => if x36 = true then (some false) else ((rivuletref23_in.f x187001 7).bind fun t198 => (if t198 = true then ((rivuletref23_in.f x187002 1099511627776).bind fun t199 => (if t199 = true then ((rivuletref23_in.f x187003 1099511627776).bind fun t200 => (if t200 = true then ((rivuletref23_in.f x187007 1000).bind fun t201 => (if t201 = true then (some (decide ((x187005.size : Int) ≤ 64))) else (some false))) else (some false))) else (some false))) else (some false)))
end
def rivuletref23_Right.f (k : Nat) (a0_0 : Int) (a0_1 : Int) (a0_2 : Int) (a0_3 : Int) (a0_4 : ByteArray) (a0_5 : ByteArray) (a0_6 : Bool) (a0_7 : Int) : Option (Bool) := if a0_0 < 0 then (rivuletref23_Right.j0 k true a0_0 a0_1 a0_2 a0_3 a0_4 a0_5 a0_6 a0_7) else (if a0_0 > 10 then (rivuletref23_Right.j0 k true a0_0 a0_1 a0_2 a0_3 a0_4 a0_5 a0_6 a0_7) else ((rivuletref23_Bare.f a0_0 a0_1 a0_2 a0_3 a0_4 a0_5 a0_6 a0_7).bind fun bt187 => (rivuletref23_Right.j0 k (!(bt187.1 == a0_0) || (!(bt187.2.1 == a0_1) || (!(bt187.2.2.1 == a0_2) || (!(bt187.2.2.2.1 == a0_3) || (!(bt187.2.2.2.2.1.toList == a0_4.toList) || (!(bt187.2.2.2.2.2.1.toList == a0_5.toList) || (!(bt187.2.2.2.2.2.2.1 == a0_6) || (!(bt187.2.2.2.2.2.2.2 == a0_7))))))))) a0_0 a0_1 a0_2 a0_3 a0_4 a0_5 a0_6 a0_7)))
def rivuletref23_Right.T1 : Bool × List (List Nat × List Nat) := (true, [([], []), ([0], [0]), ([1], [1]), ([2], [2]), ([3], [3]), ([4, 3], [3, 4]), ([5, 3], [3, 5]), ([3, 6], [3, 6]), ([7, 3], [7]), ([8], [8]), ([9, 8, 8], [8, 9]), ([8], [8]), ([10, 11, 8], [8, 10, 11]), ([8, 12], [8, 12])])
def rivuletref23_Right.B1 : List Nat := [0, 1, 3, 7, 15, 31, 63, 127, 255, 511, 1023, 511, 4095, 8191]
theorem rivuletref23_Right.tab1 : rtab .any (opsOf Tryd.f12 1) = rivuletref23_Right.T1 := by kernel_rfl
theorem rivuletref23_Right.bits1 : waitsOk rivuletref23_Right.T1.2 rivuletref23_Right.B1 = true := by kernel_rfl
set_option maxHeartbeats 8000000 in
set_option maxRecDepth 100000 in
theorem rivuletref23_Right.calls (k : Nat) (a0_0 : Int) (a0_1 : Int) (a0_2 : Int) (a0_3 : Int) (a0_4 : ByteArray) (a0_5 : ByteArray) (a0_6 : Bool) (a0_7 : Int) (r : Bool) (w : World) (h : rivuletref23_Right.f k a0_0 a0_1 a0_2 a0_3 a0_4 a0_5 a0_6 a0_7 = some r) :
  Calls Tryd.prog 12 #[.agg #[.int .i64 a0_0, .int .i64 a0_1, .int .i64 a0_2, .int .i64 a0_3, .string a0_4, .string a0_5, .bool a0_6, .int .i64 a0_7]] w fun e w' => e = .returned (.bool r) ∧ Below w.heap.size w w' := by
 have hu23 := Tryd.underlying23
 have HB := Aside0.mk (Below.refl w.heap.size w)
 have H : (if a0_0 < 0 then (rivuletref23_Right.j0 k true a0_0 a0_1 a0_2 a0_3 a0_4 a0_5 a0_6 a0_7) else (if a0_0 > 10 then (rivuletref23_Right.j0 k true a0_0 a0_1 a0_2 a0_3 a0_4 a0_5 a0_6 a0_7) else ((rivuletref23_Bare.f a0_0 a0_1 a0_2 a0_3 a0_4 a0_5 a0_6 a0_7).bind fun bt187 => (rivuletref23_Right.j0 k (!(bt187.1 == a0_0) || (!(bt187.2.1 == a0_1) || (!(bt187.2.2.1 == a0_2) || (!(bt187.2.2.2.1 == a0_3) || (!(bt187.2.2.2.2.1.toList == a0_4.toList) || (!(bt187.2.2.2.2.2.1.toList == a0_5.toList) || (!(bt187.2.2.2.2.2.2.1 == a0_6) || (!(bt187.2.2.2.2.2.2.2 == a0_7))))))))) a0_0 a0_1 a0_2 a0_3 a0_4 a0_5 a0_6 a0_7)))) = some r := h
 clear h
 have HC2 := Aside0.mk H
 clear H
 go_enter Tryd.func12, Tryd.ntmps12
 go_upto_region 1 with (first | ((with_reducible refine gate_dst (N := 1) rfl ?_); (try (refine gate_guard (by rfl) ?_; dsimp only)); refine box_event ?hg (N := 1) ?hd (cs := #[.int .i64 a0_0, .int .i64 a0_1, .int .i64 a0_2, .int .i64 a0_3, .string a0_4, .string a0_5, .bool a0_6, .int .i64 a0_7]) (t := 23) ?hr ?_; (case hd => rfl); (case hg => rfl); (case hr => first | (go_simp; done) | (go_simp; rfl)); intro gb186 hg w3 hbox hb; have n0_ := Aside0.mk (below_step (by repeat (first | (with_reducible first | exact HB.out | apply below_alloc | apply pw_below_drewN | apply below_drew1) | exact HB.out)) hb); have n1_ := Aside0.mk (hbox); have n2_ := Aside0.mk ((by rw [hg]; exact (below_size (by repeat (first | (with_reducible first | exact HB.out | apply below_alloc | apply pw_below_drewN | apply below_drew1) | exact HB.out))) : w.heap.size ≤ gb186)); have n3_ := Aside0.mk ((by rw [hg]; exact (below_size (by repeat (first | (with_reducible first | exact HB.out | apply below_alloc | apply pw_below_drewN | apply below_drew1) | exact HB.out))) : w.heap.size ≤ gb186)); clear HB; have HB := n0_; have BK186 := n1_; have GW186 := n2_; have GE186 := n3_; clear n0_ n1_ n2_ n3_; clear hb hbox hg))
 (try simp only [Act.put, List.setIfInBounds_toArray, List.set_cons_zero, List.set_cons_succ])
 go_cut [16] (fun v16 wc => ∃ (kq : Nat) (x16_1 : Bool), v16 = .bool x16_1 ∧ Aside0 (rivuletref23_Right.j0 kq x16_1 a0_0 a0_1 a0_2 a0_3 a0_4 a0_5 a0_6 a0_7 = some r) ∧ Aside0 (kq ≤ k) ∧ Aside0 (wc.heap[gb186]? = some (.cells #[.int .i64 a0_0, .int .i64 a0_1, .int .i64 a0_2, .int .i64 a0_3, .string a0_4, .string a0_5, .bool a0_6, .int .i64 a0_7] 23 (0, 0))) ∧ Aside0 (Below w.heap.size w wc))
 case first =>
  have H := HC2.out
  clear HC2
  by_cases c4 : a0_0 < 0
  ·rw [if_pos c4] at H
   have c4b0 : decide (a0_0 < 0) = true := decide_eq_true c4
   clear c4
   (first | rw [c4b0] | (simp only [i64_w, i32_w]; rw [c4b0]) | skip)
   have H' := Aside0.mk H
   clear H
   try go_wp2
   have n0_ := Aside0.mk (blk_drew BK186.out)
   have n1_ := Aside0.mk (below_drew1 HB.out)
   clear BK186
   clear HB
   have BK186 := n0_
   have HB := n1_
   clear n0_ n1_
   refine start_ (n := 14) (S := fun w' => w'.cell? ⟨gb186, 0, none⟩ = some (.int .i64 a0_0) ∧ w'.cell? ⟨gb186, 1, none⟩ = some (.int .i64 a0_1) ∧ w'.cell? ⟨gb186, 2, none⟩ = some (.int .i64 a0_2) ∧ w'.cell? ⟨gb186, 3, none⟩ = some (.int .i64 a0_3) ∧ w'.cell? ⟨gb186, 4, none⟩ = some (.string a0_4) ∧ w'.cell? ⟨gb186, 5, none⟩ = some (.string a0_5) ∧ w'.cell? ⟨gb186, 6, none⟩ = some (.bool a0_6) ∧ w'.cell? ⟨gb186, 7, none⟩ = some (.int .i64 a0_7)) (ds := []) (List.toArray (List.replicate 14 false)) (by kernel_rfl) rfl rfl ⟨(blk_cell BK186.out 0).trans rfl, (blk_cell BK186.out 1).trans rfl, (blk_cell BK186.out 2).trans rfl, (blk_cell BK186.out 3).trans rfl, (blk_cell BK186.out 4).trans rfl, (blk_cell BK186.out 5).trans rfl, (blk_cell BK186.out 6).trans rfl, (blk_cell BK186.out 7).trans rfl⟩ (fun hHeld => ?_); refine with_tabW rivuletref23_Right.tab1 rivuletref23_Right.bits1 (fun HT_ HW_ => ?_)
   generalize w3.drew = w5 at BK186 HB hHeld ⊢
   refine pure_ (i := 0) (N := some 3) (v := ?_) (a' := ?_) (List.toArray ([true] ++ List.replicate 13 false)) rfl rfl (any_of HT_.out (by kernel_rfl)) (fun _ _ _ h => h) (Or.inl ⟨by rfl, ?_⟩) ?_ ?_
   rotate_left
   ·intro w'
    go_simp
    with_reducible rfl
   rotate_left
   ·simp only [Act.put, List.setIfInBounds_toArray, List.set_cons_zero, List.set_cons_succ, i64_w, i32_w]
    rfl
   refine take_ (i := 1) (N := some 4) (v := ?_) (a' := ?_) (List.toArray ([true, true] ++ List.replicate 12 false)) rfl rfl (take_ofW HT_.out HW_.out (by kernel_rfl)) (fun _ _ _ h => h) (Or.inl ⟨by rfl, ?_⟩) hHeld ?_ ?_
   rotate_left
   ·rintro w' ⟨s0, s1, s2, s3, s4, s5, s6, s7⟩
    go_simp
    with_reducible rfl
   rotate_left
   ·simp only [Act.put, List.setIfInBounds_toArray, List.set_cons_zero, List.set_cons_succ, i64_w, i32_w]
    rfl
   refine pure_ (i := 2) (N := some 5) (v := ?_) (a' := ?_) (List.toArray ([true, true, true] ++ List.replicate 11 false)) rfl rfl (any_of HT_.out (by kernel_rfl)) (fun _ _ _ h => h) (Or.inl ⟨by rfl, ?_⟩) ?_ ?_
   rotate_left
   ·intro w'
    go_simp
    with_reducible rfl
   rotate_left
   ·simp only [Act.put, List.setIfInBounds_toArray, List.set_cons_zero, List.set_cons_succ, i64_w, i32_w]
    rfl
   refine pure_ (i := 3) (N := some 6) (v := ?_) (a' := ?_) (List.toArray ([true, true, true, true] ++ List.replicate 10 false)) rfl rfl (any_of HT_.out (by kernel_rfl)) (fun _ _ _ h => h) (Or.inl ⟨by rfl, ?_⟩) ?_ ?_
   rotate_left
   ·intro w'
    go_simp
    with_reducible rfl
   rotate_left
   ·simp only [Act.put, List.setIfInBounds_toArray, List.set_cons_zero, List.set_cons_succ, i64_w, i32_w]
    rfl
   refine pure_ (i := 4) (N := some 7) (v := undef) (a' := ?_) (List.toArray ([true, true, true, true, true] ++ List.replicate 9 false)) rfl rfl (any_of HT_.out (by kernel_rfl)) (fun _ _ _ h => h) (Or.inr ⟨by rfl, rfl⟩) ?_ ?_
   rotate_left
   ·simp only [Act.put, List.setIfInBounds_toArray, List.set_cons_zero, List.set_cons_succ, i64_w, i32_w]
    rfl
   refine pure_ (i := 5) (N := some 8) (v := undef) (a' := ?_) (List.toArray ([true, true, true, true, true, true] ++ List.replicate 8 false)) rfl rfl (any_of HT_.out (by kernel_rfl)) (fun _ _ _ h => h) (Or.inr ⟨by rfl, rfl⟩) ?_ ?_
   rotate_left
   ·simp only [Act.put, List.setIfInBounds_toArray, List.set_cons_zero, List.set_cons_succ, i64_w, i32_w]
    rfl
   refine pure_ (i := 6) (N := some 9) (v := undef) (a' := ?_) #[true, true, true, true, true, true, true, false, false, false, false, false, false, false] rfl rfl (any_of HT_.out (by kernel_rfl)) (fun _ _ _ h => h) (Or.inr ⟨by rfl, rfl⟩) ?_ ?_
   rotate_left
   ·simp only [Act.put, List.setIfInBounds_toArray, List.set_cons_zero, List.set_cons_succ, i64_w, i32_w]
    rfl
   refine pure_ (i := 7) (N := some 10) (v := ?_) (a' := ?_) #[true, true, true, true, true, true, true, true, false, false, false, false, false, false] rfl rfl (any_of HT_.out (by kernel_rfl)) (fun _ _ _ h => h) (Or.inl ⟨by rfl, ?_⟩) ?_ ?_
   rotate_left
   ·intro w'
    go_simp
    with_reducible rfl
   rotate_left
   ·simp only [Act.put, List.setIfInBounds_toArray, List.set_cons_zero, List.set_cons_succ, i64_w, i32_w]
    rfl
   refine pure_ (i := 8) (N := some 11) (v := ?_) (a' := ?_) #[true, true, true, true, true, true, true, true, true, false, false, false, false, false] rfl rfl (any_of HT_.out (by kernel_rfl)) (fun _ _ _ h => h) (Or.inl ⟨by rfl, ?_⟩) ?_ ?_
   rotate_left
   ·intro w'
    go_simp
    with_reducible rfl
   rotate_left
   ·simp only [Act.put, List.setIfInBounds_toArray, List.set_cons_zero, List.set_cons_succ, i64_w, i32_w]
    rfl
   refine pure_ (i := 9) (N := some 12) (v := undef) (a' := ?_) (List.toArray (List.replicate 10 true ++ [false, false, false, false])) rfl rfl (any_of HT_.out (by kernel_rfl)) (fun _ _ _ h => h) (Or.inr ⟨by rfl, rfl⟩) ?_ ?_
   rotate_left
   ·simp only [Act.put, List.setIfInBounds_toArray, List.set_cons_zero, List.set_cons_succ, i64_w, i32_w]
    rfl
   refine pure_ (i := 10) (N := some 13) (v := undef) (a' := ?_) (List.toArray (List.replicate 11 true ++ [false, false, false])) rfl rfl (any_of HT_.out (by kernel_rfl)) (fun _ _ _ h => h) (Or.inr ⟨by rfl, rfl⟩) ?_ ?_
   rotate_left
   ·simp only [Act.put, List.setIfInBounds_toArray, List.set_cons_zero, List.set_cons_succ, i64_w, i32_w]
    rfl
   refine pure_ (i := 11) (N := some 14) (v := undef) (a' := ?_) (List.toArray (List.replicate 12 true ++ [false, false])) rfl rfl (any_of HT_.out (by kernel_rfl)) (fun _ _ _ h => h) (Or.inr ⟨by rfl, rfl⟩) ?_ ?_
   rotate_left
   ·simp only [Act.put, List.setIfInBounds_toArray, List.set_cons_zero, List.set_cons_succ, i64_w, i32_w]
    rfl
   refine pure_ (i := 12) (N := some 15) (v := undef) (a' := ?_) (List.toArray (List.replicate 13 true ++ [false])) rfl rfl (any_of HT_.out (by kernel_rfl)) (fun _ _ _ h => h) (Or.inr ⟨by rfl, rfl⟩) ?_ ?_
   rotate_left
   ·simp only [Act.put, List.setIfInBounds_toArray, List.set_cons_zero, List.set_cons_succ, i64_w, i32_w]
    rfl
   refine pure_ (i := 13) (N := some 16) (v := ?_) (a' := ?_) (List.toArray (List.replicate 14 true)) rfl rfl (any_of HT_.out (by kernel_rfl)) (fun _ _ _ h => h) (Or.inl ⟨by rfl, ?_⟩) ?_ ?_
   rotate_left
   ·intro w'
    go_simp
    with_reducible rfl
   rotate_left
   ·simp only [Act.put, List.setIfInBounds_toArray, List.set_cons_zero, List.set_cons_succ, i64_w, i32_w]
    rfl
   refine done_ (done_of HT_.out (by kernel_rfl)) ?_
   try go_wp2
   go_meet
   case rel => exact ⟨_, (true), (by first | rfl | (simp; done) | (simp [*]; done)), H', ⟨by first | omega | exact Nat.le_refl _⟩, ⟨by (with_reducible repeat (first | refine blk_drewN ?_ _ | refine blk_drew ?_ | refine blk_alloc ?_ _)); exact BK186.out⟩, ⟨by repeat (first | (with_reducible first | exact HB.out | apply below_alloc | apply pw_below_drewN | apply below_drew1 | refine below_set ?_ GE186.out) | exact HB.out)⟩⟩
  ·rw [if_neg c4] at H
   have c4b0 : decide (a0_0 < 0) = false := decide_eq_false c4
   clear c4
   (first | rw [c4b0] | (simp only [i64_w, i32_w]; rw [c4b0]) | skip)
   by_cases c6 : a0_0 > 10
   ·rw [if_pos c6] at H
    have c6b0 : decide (10 < a0_0) = true := decide_eq_true c6
    clear c6
    have H' := Aside0.mk H
    clear H
    try go_wp2
    have n0_ := Aside0.mk (blk_drew BK186.out)
    have n1_ := Aside0.mk (below_drew1 HB.out)
    clear BK186
    clear HB
    have BK186 := n0_
    have HB := n1_
    clear n0_ n1_
    refine start_ (n := 14) (S := fun w' => w'.cell? ⟨gb186, 0, none⟩ = some (.int .i64 a0_0) ∧ w'.cell? ⟨gb186, 1, none⟩ = some (.int .i64 a0_1) ∧ w'.cell? ⟨gb186, 2, none⟩ = some (.int .i64 a0_2) ∧ w'.cell? ⟨gb186, 3, none⟩ = some (.int .i64 a0_3) ∧ w'.cell? ⟨gb186, 4, none⟩ = some (.string a0_4) ∧ w'.cell? ⟨gb186, 5, none⟩ = some (.string a0_5) ∧ w'.cell? ⟨gb186, 6, none⟩ = some (.bool a0_6) ∧ w'.cell? ⟨gb186, 7, none⟩ = some (.int .i64 a0_7)) (ds := []) (List.toArray (List.replicate 14 false)) (by kernel_rfl) rfl rfl ⟨(blk_cell BK186.out 0).trans rfl, (blk_cell BK186.out 1).trans rfl, (blk_cell BK186.out 2).trans rfl, (blk_cell BK186.out 3).trans rfl, (blk_cell BK186.out 4).trans rfl, (blk_cell BK186.out 5).trans rfl, (blk_cell BK186.out 6).trans rfl, (blk_cell BK186.out 7).trans rfl⟩ (fun hHeld => ?_); refine with_tabW rivuletref23_Right.tab1 rivuletref23_Right.bits1 (fun HT_ HW_ => ?_)
    generalize w3.drew = w7 at BK186 HB hHeld ⊢
    refine pure_ (i := 0) (N := some 3) (v := ?_) (a' := ?_) (List.toArray ([true] ++ List.replicate 13 false)) rfl rfl (any_of HT_.out (by kernel_rfl)) (fun _ _ _ h => h) (Or.inl ⟨by rfl, ?_⟩) ?_ ?_
    rotate_left
    ·intro w'
     go_simp
     with_reducible rfl
    rotate_left
    ·simp only [Act.put, List.setIfInBounds_toArray, List.set_cons_zero, List.set_cons_succ, i64_w, i32_w]
     rfl
    refine take_ (i := 1) (N := some 4) (v := ?_) (a' := ?_) (List.toArray ([true, true] ++ List.replicate 12 false)) rfl rfl (take_ofW HT_.out HW_.out (by kernel_rfl)) (fun _ _ _ h => h) (Or.inl ⟨by rfl, ?_⟩) hHeld ?_ ?_
    rotate_left
    ·rintro w' ⟨s0, s1, s2, s3, s4, s5, s6, s7⟩
     go_simp
     with_reducible rfl
    rotate_left
    ·simp only [Act.put, List.setIfInBounds_toArray, List.set_cons_zero, List.set_cons_succ, i64_w, i32_w]
     rfl
    refine pure_ (i := 2) (N := some 5) (v := ?_) (a' := ?_) (List.toArray ([true, true, true] ++ List.replicate 11 false)) rfl rfl (any_of HT_.out (by kernel_rfl)) (fun _ _ _ h => h) (Or.inl ⟨by rfl, ?_⟩) ?_ ?_
    rotate_left
    ·intro w'
     go_simp
     with_reducible rfl
    rotate_left
    ·simp only [Act.put, List.setIfInBounds_toArray, List.set_cons_zero, List.set_cons_succ, i64_w, i32_w]
     rfl
    refine pure_ (i := 3) (N := some 6) (v := ?_) (a' := ?_) (List.toArray ([true, true, true, true] ++ List.replicate 10 false)) rfl rfl (any_of HT_.out (by kernel_rfl)) (fun _ _ _ h => h) (Or.inl ⟨by rfl, ?_⟩) ?_ ?_
    rotate_left
    ·intro w'
     go_simp
     with_reducible rfl
    rotate_left
    ·simp only [Act.put, List.setIfInBounds_toArray, List.set_cons_zero, List.set_cons_succ, i64_w, i32_w]
     rfl
    refine pure_ (i := 4) (N := some 7) (v := ?_) (a' := ?_) (List.toArray ([true, true, true, true, true] ++ List.replicate 9 false)) rfl rfl (any_of HT_.out (by kernel_rfl)) (fun _ _ _ h => h) (Or.inl ⟨by rfl, ?_⟩) ?_ ?_
    rotate_left
    ·intro w'
     go_simp
     with_reducible rfl
    rotate_left
    ·simp only [Act.put, List.setIfInBounds_toArray, List.set_cons_zero, List.set_cons_succ, i64_w, i32_w]
     rfl
    refine take_ (i := 5) (N := some 8) (v := ?_) (a' := ?_) (List.toArray ([true, true, true, true, true, true] ++ List.replicate 8 false)) rfl rfl (take_ofW HT_.out HW_.out (by kernel_rfl)) (fun _ _ _ h => h) (Or.inl ⟨by rfl, ?_⟩) hHeld ?_ ?_
    rotate_left
    ·rintro w' ⟨s0, s1, s2, s3, s4, s5, s6, s7⟩
     go_simp
     with_reducible rfl
    rotate_left
    ·simp only [Act.put, List.setIfInBounds_toArray, List.set_cons_zero, List.set_cons_succ, i64_w, i32_w]
     rfl
    refine pure_ (i := 6) (N := some 9) (v := ?_) (a' := ?_) #[true, true, true, true, true, true, true, false, false, false, false, false, false, false] rfl rfl (any_of HT_.out (by kernel_rfl)) (fun _ _ _ h => h) (Or.inl ⟨by rfl, ?_⟩) ?_ ?_
    rotate_left
    ·intro w'
     go_simp
     with_reducible rfl
    rotate_left
    ·simp only [Act.put, List.setIfInBounds_toArray, List.set_cons_zero, List.set_cons_succ, i64_w, i32_w]
     rfl
    refine pure_ (i := 7) (N := some 10) (v := ?_) (a' := ?_) #[true, true, true, true, true, true, true, true, false, false, false, false, false, false] rfl rfl (any_of HT_.out (by kernel_rfl)) (fun _ _ _ h => h) (Or.inl ⟨by rfl, ?_⟩) ?_ ?_
    rotate_left
    ·intro w'
     go_simp
     with_reducible rfl
    rotate_left
    ·simp only [Act.put, List.setIfInBounds_toArray, List.set_cons_zero, List.set_cons_succ, i64_w, i32_w]
     rfl
    refine pure_ (i := 8) (N := some 11) (v := ?_) (a' := ?_) #[true, true, true, true, true, true, true, true, true, false, false, false, false, false] rfl rfl (any_of HT_.out (by kernel_rfl)) (fun _ _ _ h => h) (Or.inl ⟨by rfl, ?_⟩) ?_ ?_
    rotate_left
    ·intro w'
     go_simp
     with_reducible rfl
    rotate_left
    ·simp only [Act.put, List.setIfInBounds_toArray, List.set_cons_zero, List.set_cons_succ, i64_w, i32_w]
     rfl
    refine pure_ (i := 9) (N := some 12) (v := undef) (a' := ?_) (List.toArray (List.replicate 10 true ++ [false, false, false, false])) rfl rfl (any_of HT_.out (by kernel_rfl)) (fun _ _ _ h => h) (Or.inr ⟨by rfl, rfl⟩) ?_ ?_
    rotate_left
    ·simp only [Act.put, List.setIfInBounds_toArray, List.set_cons_zero, List.set_cons_succ, i64_w, i32_w]
     rfl
    refine pure_ (i := 10) (N := some 13) (v := undef) (a' := ?_) (List.toArray (List.replicate 11 true ++ [false, false, false])) rfl rfl (any_of HT_.out (by kernel_rfl)) (fun _ _ _ h => h) (Or.inr ⟨by rfl, rfl⟩) ?_ ?_
    rotate_left
    ·simp only [Act.put, List.setIfInBounds_toArray, List.set_cons_zero, List.set_cons_succ, i64_w, i32_w]
     rfl
    refine pure_ (i := 11) (N := some 14) (v := undef) (a' := ?_) (List.toArray (List.replicate 12 true ++ [false, false])) rfl rfl (any_of HT_.out (by kernel_rfl)) (fun _ _ _ h => h) (Or.inr ⟨by rfl, rfl⟩) ?_ ?_
    rotate_left
    ·simp only [Act.put, List.setIfInBounds_toArray, List.set_cons_zero, List.set_cons_succ, i64_w, i32_w]
     rfl
    refine pure_ (i := 12) (N := some 15) (v := undef) (a' := ?_) (List.toArray (List.replicate 13 true ++ [false])) rfl rfl (any_of HT_.out (by kernel_rfl)) (fun _ _ _ h => h) (Or.inr ⟨by rfl, rfl⟩) ?_ ?_
    rotate_left
    ·simp only [Act.put, List.setIfInBounds_toArray, List.set_cons_zero, List.set_cons_succ, i64_w, i32_w]
     rfl
    refine pure_ (i := 13) (N := some 16) (v := ?_) (a' := ?_) (List.toArray (List.replicate 14 true)) rfl rfl (any_of HT_.out (by kernel_rfl)) (fun _ _ _ h => h) (Or.inl ⟨by rfl, ?_⟩) ?_ ?_
    rotate_left
    ·intro w'
     go_simp
     with_reducible rfl
    rotate_left
    ·simp only [Act.put, List.setIfInBounds_toArray, List.set_cons_zero, List.set_cons_succ, i64_w, i32_w]
     rfl
    refine done_ (done_of HT_.out (by kernel_rfl)) ?_
    try go_wp2
    go_meet
    case rel => exact ⟨_, (true), (by first | rfl | (simp; done) | (simp [*]; done)), H', ⟨by first | omega | exact Nat.le_refl _⟩, ⟨by (with_reducible repeat (first | refine blk_drewN ?_ _ | refine blk_drew ?_ | refine blk_alloc ?_ _)); exact BK186.out⟩, ⟨by repeat (first | (with_reducible first | exact HB.out | apply below_alloc | apply pw_below_drewN | apply below_drew1 | refine below_set ?_ GE186.out) | exact HB.out)⟩⟩
   ·rw [if_neg c6] at H
    have c6b0 : decide (10 < a0_0) = false := decide_eq_false c6
    clear c6
    replace H := Option.bind_eq_some_iff.mp H
    obtain ⟨⟨t187, t188, t189, t190, t191, t192, t193, t194⟩, A80, H⟩ := H
    replace H : (rivuletref23_Right.j0 k (!(t187 == a0_0) || (!(t188 == a0_1) || (!(t189 == a0_2) || (!(t190 == a0_3) || (!(t191.toList == a0_4.toList) || (!(t192.toList == a0_5.toList) || (!(t193 == a0_6) || (!(t194 == a0_7))))))))) a0_0 a0_1 a0_2 a0_3 a0_4 a0_5 a0_6 a0_7) = some r := H
    have A8 := Aside0.mk A80
    clear A80
    have H' := Aside0.mk H
    clear H
    try go_wp2
    have n0_ := Aside0.mk (blk_drew BK186.out)
    have n1_ := Aside0.mk (below_drew1 HB.out)
    clear BK186
    clear HB
    have BK186 := n0_
    have HB := n1_
    clear n0_ n1_
    refine start_ (n := 14) (S := fun w' => w'.cell? ⟨gb186, 0, none⟩ = some (.int .i64 a0_0) ∧ w'.cell? ⟨gb186, 1, none⟩ = some (.int .i64 a0_1) ∧ w'.cell? ⟨gb186, 2, none⟩ = some (.int .i64 a0_2) ∧ w'.cell? ⟨gb186, 3, none⟩ = some (.int .i64 a0_3) ∧ w'.cell? ⟨gb186, 4, none⟩ = some (.string a0_4) ∧ w'.cell? ⟨gb186, 5, none⟩ = some (.string a0_5) ∧ w'.cell? ⟨gb186, 6, none⟩ = some (.bool a0_6) ∧ w'.cell? ⟨gb186, 7, none⟩ = some (.int .i64 a0_7)) (ds := []) (List.toArray (List.replicate 14 false)) (by kernel_rfl) rfl rfl ⟨(blk_cell BK186.out 0).trans rfl, (blk_cell BK186.out 1).trans rfl, (blk_cell BK186.out 2).trans rfl, (blk_cell BK186.out 3).trans rfl, (blk_cell BK186.out 4).trans rfl, (blk_cell BK186.out 5).trans rfl, (blk_cell BK186.out 6).trans rfl, (blk_cell BK186.out 7).trans rfl⟩ (fun hHeld => ?_); refine with_tabW rivuletref23_Right.tab1 rivuletref23_Right.bits1 (fun HT_ HW_ => ?_)
    generalize w3.drew = w9 at BK186 HB hHeld ⊢
    refine pure_ (i := 0) (N := some 3) (v := ?_) (a' := ?_) (List.toArray ([true] ++ List.replicate 13 false)) rfl rfl (any_of HT_.out (by kernel_rfl)) (fun _ _ _ h => h) (Or.inl ⟨by rfl, ?_⟩) ?_ ?_
    rotate_left
    ·intro w'
     go_simp
     with_reducible rfl
    rotate_left
    ·simp only [Act.put, List.setIfInBounds_toArray, List.set_cons_zero, List.set_cons_succ, i64_w, i32_w]
     rfl
    refine take_ (i := 1) (N := some 4) (v := ?_) (a' := ?_) (List.toArray ([true, true] ++ List.replicate 12 false)) rfl rfl (take_ofW HT_.out HW_.out (by kernel_rfl)) (fun _ _ _ h => h) (Or.inl ⟨by rfl, ?_⟩) hHeld ?_ ?_
    rotate_left
    ·rintro w' ⟨s0, s1, s2, s3, s4, s5, s6, s7⟩
     go_simp
     with_reducible rfl
    rotate_left
    ·simp only [Act.put, List.setIfInBounds_toArray, List.set_cons_zero, List.set_cons_succ, i64_w, i32_w]
     rfl
    refine pure_ (i := 2) (N := some 5) (v := ?_) (a' := ?_) (List.toArray ([true, true, true] ++ List.replicate 11 false)) rfl rfl (any_of HT_.out (by kernel_rfl)) (fun _ _ _ h => h) (Or.inl ⟨by rfl, ?_⟩) ?_ ?_
    rotate_left
    ·intro w'
     go_simp
     with_reducible rfl
    rotate_left
    ·simp only [Act.put, List.setIfInBounds_toArray, List.set_cons_zero, List.set_cons_succ, i64_w, i32_w]
     rfl
    refine pure_ (i := 3) (N := some 6) (v := ?_) (a' := ?_) (List.toArray ([true, true, true, true] ++ List.replicate 10 false)) rfl rfl (any_of HT_.out (by kernel_rfl)) (fun _ _ _ h => h) (Or.inl ⟨by rfl, ?_⟩) ?_ ?_
    rotate_left
    ·intro w'
     go_simp
     with_reducible rfl
    rotate_left
    ·simp only [Act.put, List.setIfInBounds_toArray, List.set_cons_zero, List.set_cons_succ, i64_w, i32_w]
     rfl
    refine pure_ (i := 4) (N := some 7) (v := ?_) (a' := ?_) (List.toArray ([true, true, true, true, true] ++ List.replicate 9 false)) rfl rfl (any_of HT_.out (by kernel_rfl)) (fun _ _ _ h => h) (Or.inl ⟨by rfl, ?_⟩) ?_ ?_
    rotate_left
    ·intro w'
     go_simp
     with_reducible rfl
    rotate_left
    ·simp only [Act.put, List.setIfInBounds_toArray, List.set_cons_zero, List.set_cons_succ, i64_w, i32_w]
     rfl
    refine take_ (i := 5) (N := some 8) (v := ?_) (a' := ?_) (List.toArray ([true, true, true, true, true, true] ++ List.replicate 8 false)) rfl rfl (take_ofW HT_.out HW_.out (by kernel_rfl)) (fun _ _ _ h => h) (Or.inl ⟨by rfl, ?_⟩) hHeld ?_ ?_
    rotate_left
    ·rintro w' ⟨s0, s1, s2, s3, s4, s5, s6, s7⟩
     go_simp
     with_reducible rfl
    rotate_left
    ·simp only [Act.put, List.setIfInBounds_toArray, List.set_cons_zero, List.set_cons_succ, i64_w, i32_w]
     rfl
    refine pure_ (i := 6) (N := some 9) (v := ?_) (a' := ?_) #[true, true, true, true, true, true, true, false, false, false, false, false, false, false] rfl rfl (any_of HT_.out (by kernel_rfl)) (fun _ _ _ h => h) (Or.inl ⟨by rfl, ?_⟩) ?_ ?_
    rotate_left
    ·intro w'
     go_simp
     with_reducible rfl
    rotate_left
    ·simp only [Act.put, List.setIfInBounds_toArray, List.set_cons_zero, List.set_cons_succ, i64_w, i32_w]
     rfl
    refine pure_ (i := 7) (N := some 10) (v := ?_) (a' := ?_) #[true, true, true, true, true, true, true, true, false, false, false, false, false, false] rfl rfl (any_of HT_.out (by kernel_rfl)) (fun _ _ _ h => h) (Or.inl ⟨by rfl, ?_⟩) ?_ ?_
    rotate_left
    ·intro w'
     go_simp
     with_reducible rfl
    rotate_left
    ·simp only [Act.put, List.setIfInBounds_toArray, List.set_cons_zero, List.set_cons_succ, i64_w, i32_w]
     rfl
    refine pure_ (i := 8) (N := some 11) (v := ?_) (a' := ?_) #[true, true, true, true, true, true, true, true, true, false, false, false, false, false] rfl rfl (any_of HT_.out (by kernel_rfl)) (fun _ _ _ h => h) (Or.inl ⟨by rfl, ?_⟩) ?_ ?_
    rotate_left
    ·intro w'
     go_simp
     with_reducible rfl
    rotate_left
    ·simp only [Act.put, List.setIfInBounds_toArray, List.set_cons_zero, List.set_cons_succ, i64_w, i32_w]
     rfl
    refine take_ (i := 9) (N := some 12) (v := ?_) (a' := ?_) (List.toArray (List.replicate 10 true ++ [false, false, false, false])) rfl rfl (take_ofW HT_.out HW_.out (by kernel_rfl)) (fun _ _ _ h => h) (Or.inl ⟨by rfl, ?_⟩) hHeld ?_ ?_
    rotate_left
    ·rintro w' ⟨s0, s1, s2, s3, s4, s5, s6, s7⟩
     go_simp
     with_reducible rfl
    rotate_left
    ·simp only [Act.put, List.setIfInBounds_toArray, List.set_cons_zero, List.set_cons_succ, i64_w, i32_w]
     rfl
    refine take_ (i := 11) (N := some 14) (v := ?_) (a' := ?_) (List.toArray (List.replicate 10 true ++ [false, true, false, false])) rfl rfl (take_ofW HT_.out HW_.out (by kernel_rfl)) (fun _ _ _ h => h) (Or.inl ⟨by rfl, ?_⟩) hHeld ?_ ?_
    rotate_left
    ·rintro w' ⟨s0, s1, s2, s3, s4, s5, s6, s7⟩
     go_simp
     with_reducible rfl
    rotate_left
    ·simp only [Act.put, List.setIfInBounds_toArray, List.set_cons_zero, List.set_cons_succ, i64_w, i32_w]
     rfl
    refine one_ (i := 10) (N := some 13) (List.toArray (List.replicate 12 true ++ [false, false])) rfl rfl (one_of HT_.out (by kernel_rfl)) (by decide) (fun K hK => ?_)
    refine goes_ Tryd.func14 (by kernel_rfl) rfl #[.agg #[.int .i64 a0_0, .int .i64 a0_1, .int .i64 a0_2, .int .i64 a0_3, .string a0_4, .string a0_5, .bool a0_6, .int .i64 a0_7]] (by rfl) rfl rfl (by (try simp only [List.map_toArray, List.map_cons, List.map_nil]); first | done | rfl | (simp only [List.length_drop, List.length_take]; rfl)) ?_
    with_reducible refine (rivuletref23_Bare.calls a0_0 a0_1 a0_2 a0_3 a0_4 a0_5 a0_6 a0_7 t187 t188 t189 t190 t191 t192 t193 t194 _ A8.out).mono ?_
    rintro e w10 ⟨rfl, hb⟩
    refine ⟨_, rfl, ?_⟩
    have n0_ := Aside0.mk (blk_below (g := gb186) (o := .cells #[.int .i64 a0_0, .int .i64 a0_1, .int .i64 a0_2, .int .i64 a0_3, .string a0_4, .string a0_5, .bool a0_6, .int .i64 a0_7] 23 (0, 0)) (by (with_reducible repeat (first | refine blk_drewN ?_ _ | refine blk_drew ?_ | refine blk_alloc ?_ _)); exact BK186.out) hb)
    have n1_ := Aside0.mk (below_step (by repeat (first | (with_reducible first | exact HB.out | apply below_alloc | apply pw_below_drewN | apply below_drew1 | refine below_set ?_ GE186.out) | exact HB.out)) hb)
    clear BK186
    clear HB
    have BK186 := n0_
    have HB := n1_
    clear n0_ n1_
    (try clear hb)
    (try clear hb2)
    (try clear hk)
    (try clear hi)
    refine hK.out _ _ ⟨(blk_cell BK186.out 0).trans rfl, (blk_cell BK186.out 1).trans rfl, (blk_cell BK186.out 2).trans rfl, (blk_cell BK186.out 3).trans rfl, (blk_cell BK186.out 4).trans rfl, (blk_cell BK186.out 5).trans rfl, (blk_cell BK186.out 6).trans rfl, (blk_cell BK186.out 7).trans rfl⟩ (fun hHeld => ?_)
    clear hK K
    refine norm_ (a' := ?_) ?_ ?_
    rotate_left
    ·show Act.put _ (some 13) _ = _
     simp only [Act.put, List.setIfInBounds_toArray, List.set_cons_zero, List.set_cons_succ, i64_w, i32_w]
     rfl
    refine pure_ (i := 12) (N := some 15) (v := ?_) (a' := ?_) (List.toArray (List.replicate 13 true ++ [false])) rfl rfl (any_of HT_.out (by kernel_rfl)) (fun _ _ _ h => h) (Or.inl ⟨by rfl, ?_⟩) ?_ ?_
    rotate_left
    ·intro w'
     go_simp
     with_reducible rfl
    rotate_left
    ·simp only [Act.put, List.setIfInBounds_toArray, List.set_cons_zero, List.set_cons_succ, i64_w, i32_w]
     rfl
    refine pure_ (i := 13) (N := some 16) (v := ?_) (a' := ?_) (List.toArray (List.replicate 14 true)) rfl rfl (any_of HT_.out (by kernel_rfl)) (fun _ _ _ h => h) (Or.inl ⟨by rfl, ?_⟩) ?_ ?_
    rotate_left
    ·intro w'
     go_simp
     with_reducible rfl
    rotate_left
    ·simp only [Act.put, List.setIfInBounds_toArray, List.set_cons_zero, List.set_cons_succ, i64_w, i32_w]
     rfl
    refine done_ (done_of HT_.out (by kernel_rfl)) ?_
    try go_wp2
    go_meet
    case rel => exact ⟨_, ((!(t187 == a0_0) || (!(t188 == a0_1) || (!(t189 == a0_2) || (!(t190 == a0_3) || (!(t191.toList == a0_4.toList) || (!(t192.toList == a0_5.toList) || (!(t193 == a0_6) || (!(t194 == a0_7)))))))))), (by first | rfl | (simp; done) | (simp [*]; done)), H', ⟨by first | omega | exact Nat.le_refl _⟩, ⟨by (with_reducible repeat (first | refine blk_drewN ?_ _ | refine blk_drew ?_ | refine blk_alloc ?_ _)); exact BK186.out⟩, ⟨by repeat (first | (with_reducible first | exact HB.out | apply below_alloc | apply pw_below_drewN | apply below_drew1 | refine below_set ?_ GE186.out) | exact HB.out)⟩⟩
 case rest =>
  clear HC2
  try clear c1
  try clear p2
  try clear c4
  try clear c4b0
  try clear c6
  try clear c6b0
  obtain ⟨kq, x16_1, rfl, HA, HJ1, BK186, HB⟩ := hcut
  cases kq with
  | zero => exact absurd HA.out (by simp [rivuletref23_Right.j0])
  | succ kj1 =>
   have H := HA.out
   clear HA
   simp only [rivuletref23_Right.j0] at H
   by_cases c11 : x16_1 = true
   ·subst c11
    have H1 : (some false) = some r := by rw [if_pos rfl] at H; exact H
    clear H
    have H := H1
    clear H1
    obtain rfl := Option.some.inj H
    go_wp2
    go_ret
    exact ⟨by first | rfl | (simp [errW_none, errW_some] <;> rfl) | (simp [*, errW_none, errW_some] <;> rfl), by repeat (first | (with_reducible first | exact HB.out | apply below_alloc | apply pw_below_drewN | apply below_drew1 | refine below_set ?_ GE186.out) | exact HB.out)⟩
   ·replace c11 := Bool.eq_false_iff.mpr c11
    subst c11
    have H1 : (if a0_0 = 0 then ((rivuletref03_Right.f kj1 a0_4).bind fun t195 => (if t195 = true then (if a0_0 = 3 then ((rivuletref03_Filter.f kj1 a0_4).bind fun t196 => (rivuletref23_Right.j1 kj1 (!t196) a0_0 a0_1 a0_2 a0_3 a0_4 a0_5 a0_6 a0_7)) else (rivuletref23_Right.j1 kj1 false a0_0 a0_1 a0_2 a0_3 a0_4 a0_5 a0_6 a0_7)) else (rivuletref23_Right.j1 kj1 true a0_0 a0_1 a0_2 a0_3 a0_4 a0_5 a0_6 a0_7))) else (if a0_0 = 3 then ((rivuletref03_Filter.f kj1 a0_4).bind fun t197 => (rivuletref23_Right.j1 kj1 (!t197) a0_0 a0_1 a0_2 a0_3 a0_4 a0_5 a0_6 a0_7)) else (rivuletref23_Right.j1 kj1 false a0_0 a0_1 a0_2 a0_3 a0_4 a0_5 a0_6 a0_7))) = some r := by rw [if_neg (show ¬ (false = true) by decide)] at H; exact H
    clear H
    have H := H1
    clear H1
    have HC12 := Aside0.mk H
    clear H
    go_upto_region 3 with (fail)
    go_cut [36] (fun v36 wc => ∃ (kq : Nat) (x36_11 : Bool), v36 = .bool x36_11 ∧ Aside0 (rivuletref23_Right.j1 kq x36_11 a0_0 a0_1 a0_2 a0_3 a0_4 a0_5 a0_6 a0_7 = some r) ∧ Aside0 (kq ≤ kj1) ∧ Aside0 (wc.heap[gb186]? = some (.cells #[.int .i64 a0_0, .int .i64 a0_1, .int .i64 a0_2, .int .i64 a0_3, .string a0_4, .string a0_5, .bool a0_6, .int .i64 a0_7] 23 (0, 0))) ∧ Aside0 (Below w.heap.size w wc))
    case first =>
     have H := HC12.out
     clear HC12
     by_cases c13 : a0_0 = 0
     ·rw [if_pos c13] at H
      have c13b0 : (a0_0 == 0) = true := beq_iff_eq.mpr c13
      have c13b1 : (a0_0 != 0) = false := bne_eq_false_iff_eq.mpr c13
      clear c13
      (first | rw [c13b0] | (simp only [i64_w, i32_w]; rw [c13b0]) | skip)
      replace H := Option.bind_eq_some_iff.mp H
      obtain ⟨t195, A140, H⟩ := H
      replace H : (if t195 = true then (if a0_0 = 3 then ((rivuletref03_Filter.f kj1 a0_4).bind fun t196 => (rivuletref23_Right.j1 kj1 (!t196) a0_0 a0_1 a0_2 a0_3 a0_4 a0_5 a0_6 a0_7)) else (rivuletref23_Right.j1 kj1 false a0_0 a0_1 a0_2 a0_3 a0_4 a0_5 a0_6 a0_7)) else (rivuletref23_Right.j1 kj1 true a0_0 a0_1 a0_2 a0_3 a0_4 a0_5 a0_6 a0_7)) = some r := H
      have A14 := Aside0.mk A140
      clear A140
      by_cases c15 : t195 = true
      ·subst c15
       have H1 : (if a0_0 = 3 then ((rivuletref03_Filter.f kj1 a0_4).bind fun t196 => (rivuletref23_Right.j1 kj1 (!t196) a0_0 a0_1 a0_2 a0_3 a0_4 a0_5 a0_6 a0_7)) else (rivuletref23_Right.j1 kj1 false a0_0 a0_1 a0_2 a0_3 a0_4 a0_5 a0_6 a0_7)) = some r := by rw [if_pos rfl] at H; exact H
       clear H
       have H := H1
       clear H1
       by_cases c16 : a0_0 = 3
       ·rw [if_pos c16] at H
        have c16b0 : (a0_0 == 3) = true := beq_iff_eq.mpr c16
        have c16b1 : (a0_0 != 3) = false := bne_eq_false_iff_eq.mpr c16
        clear c16
        replace H := Option.bind_eq_some_iff.mp H
        obtain ⟨t196, A170, H⟩ := H
        replace H : (rivuletref23_Right.j1 kj1 (!t196) a0_0 a0_1 a0_2 a0_3 a0_4 a0_5 a0_6 a0_7) = some r := H
        have A17 := Aside0.mk A170
        clear A170
        have H' := Aside0.mk H
        clear H
        have hcz18_0 : wc.cell? ⟨gb186, 0, none⟩ = some (.int .i64 a0_0) := (blk_cell BK186.out 0).trans rfl
        have hcz18_1 : wc.cell? ⟨gb186, 1, none⟩ = some (.int .i64 a0_1) := (blk_cell BK186.out 1).trans rfl
        have hcz18_2 : wc.cell? ⟨gb186, 2, none⟩ = some (.int .i64 a0_2) := (blk_cell BK186.out 2).trans rfl
        have hcz18_3 : wc.cell? ⟨gb186, 3, none⟩ = some (.int .i64 a0_3) := (blk_cell BK186.out 3).trans rfl
        have hcz18_4 : wc.cell? ⟨gb186, 4, none⟩ = some (.string a0_4) := (blk_cell BK186.out 4).trans rfl
        have hcz18_5 : wc.cell? ⟨gb186, 5, none⟩ = some (.string a0_5) := (blk_cell BK186.out 5).trans rfl
        have hcz18_6 : wc.cell? ⟨gb186, 6, none⟩ = some (.bool a0_6) := (blk_cell BK186.out 6).trans rfl
        have hcz18_7 : wc.cell? ⟨gb186, 7, none⟩ = some (.int .i64 a0_7) := (blk_cell BK186.out 7).trans rfl
        have hfz18_0 := blk_frozen BK186.out 0
        have hfz18_1 := blk_frozen BK186.out 1
        have hfz18_2 := blk_frozen BK186.out 2
        have hfz18_3 := blk_frozen BK186.out 3
        have hfz18_4 := blk_frozen BK186.out 4
        have hfz18_5 := blk_frozen BK186.out 5
        have hfz18_6 := blk_frozen BK186.out 6
        have hfz18_7 := blk_frozen BK186.out 7
        go_wp2_with (first | (go_at_call 31; (with_reducible refine (rivuletref03_Right.calls kj1 a0_4 true _ A14.out).mono ?_); rintro e w19 ⟨rfl, hb⟩; have n0_ := Aside0.mk (blk_below (g := gb186) (o := .cells #[.int .i64 a0_0, .int .i64 a0_1, .int .i64 a0_2, .int .i64 a0_3, .string a0_4, .string a0_5, .bool a0_6, .int .i64 a0_7] 23 (0, 0)) (by (with_reducible repeat (first | refine blk_drewN ?_ _ | refine blk_drew ?_ | refine blk_alloc ?_ _)); exact BK186.out) hb); have n1_ := Aside0.mk (below_step (by repeat (first | (with_reducible first | exact HB.out | apply below_alloc | apply pw_below_drewN | apply below_drew1 | refine below_set ?_ GE186.out) | exact HB.out)) hb); clear BK186; clear HB; have BK186 := n0_; have HB := n1_; clear n0_ n1_; (try clear hb); (try clear hb2); (try clear hk); (try clear hi); have hcz20_0 : w19.cell? ⟨gb186, 0, none⟩ = some (.int .i64 a0_0) := (blk_cell BK186.out 0).trans rfl; have hcz20_1 : w19.cell? ⟨gb186, 1, none⟩ = some (.int .i64 a0_1) := (blk_cell BK186.out 1).trans rfl; have hcz20_2 : w19.cell? ⟨gb186, 2, none⟩ = some (.int .i64 a0_2) := (blk_cell BK186.out 2).trans rfl; have hcz20_3 : w19.cell? ⟨gb186, 3, none⟩ = some (.int .i64 a0_3) := (blk_cell BK186.out 3).trans rfl; have hcz20_4 : w19.cell? ⟨gb186, 4, none⟩ = some (.string a0_4) := (blk_cell BK186.out 4).trans rfl; have hcz20_5 : w19.cell? ⟨gb186, 5, none⟩ = some (.string a0_5) := (blk_cell BK186.out 5).trans rfl; have hcz20_6 : w19.cell? ⟨gb186, 6, none⟩ = some (.bool a0_6) := (blk_cell BK186.out 6).trans rfl; have hcz20_7 : w19.cell? ⟨gb186, 7, none⟩ = some (.int .i64 a0_7) := (blk_cell BK186.out 7).trans rfl; have hfz20_0 := blk_frozen BK186.out 0; have hfz20_1 := blk_frozen BK186.out 1; have hfz20_2 := blk_frozen BK186.out 2; have hfz20_3 := blk_frozen BK186.out 3; have hfz20_4 := blk_frozen BK186.out 4; have hfz20_5 := blk_frozen BK186.out 5; have hfz20_6 := blk_frozen BK186.out 6; have hfz20_7 := blk_frozen BK186.out 7) | (go_at_call 32; (with_reducible refine (rivuletref03_Filter.calls kj1 a0_4 t196 _ A17.out).mono ?_); rintro e w21 ⟨rfl, hb⟩; have n0_ := Aside0.mk (blk_below (g := gb186) (o := .cells #[.int .i64 a0_0, .int .i64 a0_1, .int .i64 a0_2, .int .i64 a0_3, .string a0_4, .string a0_5, .bool a0_6, .int .i64 a0_7] 23 (0, 0)) (by (with_reducible repeat (first | refine blk_drewN ?_ _ | refine blk_drew ?_ | refine blk_alloc ?_ _)); exact BK186.out) hb); have n1_ := Aside0.mk (below_step (by repeat (first | (with_reducible first | exact HB.out | apply below_alloc | apply pw_below_drewN | apply below_drew1 | refine below_set ?_ GE186.out) | exact HB.out)) hb); clear BK186; clear HB; have BK186 := n0_; have HB := n1_; clear n0_ n1_; (try clear hb); (try clear hb2); (try clear hk); (try clear hi)))
        go_meet
        case rel => exact ⟨_, (!t196), (by first | rfl | (simp; done) | (simp [*]; done)), H', ⟨by have := HJ1.out; first | omega | exact Nat.le_refl _⟩, ⟨by (with_reducible repeat (first | refine blk_drewN ?_ _ | refine blk_drew ?_ | refine blk_alloc ?_ _)); exact BK186.out⟩, ⟨by repeat (first | (with_reducible first | exact HB.out | apply below_alloc | apply pw_below_drewN | apply below_drew1 | refine below_set ?_ GE186.out) | exact HB.out)⟩⟩
       ·rw [if_neg c16] at H
        have c16b0 : (a0_0 == 3) = false := beq_eq_false_iff_ne.mpr c16
        have c16b1 : (a0_0 != 3) = true := bne_iff_ne.mpr c16
        have H' := Aside0.mk H
        clear H
        have hcz22_0 : wc.cell? ⟨gb186, 0, none⟩ = some (.int .i64 a0_0) := (blk_cell BK186.out 0).trans rfl
        have hcz22_1 : wc.cell? ⟨gb186, 1, none⟩ = some (.int .i64 a0_1) := (blk_cell BK186.out 1).trans rfl
        have hcz22_2 : wc.cell? ⟨gb186, 2, none⟩ = some (.int .i64 a0_2) := (blk_cell BK186.out 2).trans rfl
        have hcz22_3 : wc.cell? ⟨gb186, 3, none⟩ = some (.int .i64 a0_3) := (blk_cell BK186.out 3).trans rfl
        have hcz22_4 : wc.cell? ⟨gb186, 4, none⟩ = some (.string a0_4) := (blk_cell BK186.out 4).trans rfl
        have hcz22_5 : wc.cell? ⟨gb186, 5, none⟩ = some (.string a0_5) := (blk_cell BK186.out 5).trans rfl
        have hcz22_6 : wc.cell? ⟨gb186, 6, none⟩ = some (.bool a0_6) := (blk_cell BK186.out 6).trans rfl
        have hcz22_7 : wc.cell? ⟨gb186, 7, none⟩ = some (.int .i64 a0_7) := (blk_cell BK186.out 7).trans rfl
        have hfz22_0 := blk_frozen BK186.out 0
        have hfz22_1 := blk_frozen BK186.out 1
        have hfz22_2 := blk_frozen BK186.out 2
        have hfz22_3 := blk_frozen BK186.out 3
        have hfz22_4 := blk_frozen BK186.out 4
        have hfz22_5 := blk_frozen BK186.out 5
        have hfz22_6 := blk_frozen BK186.out 6
        have hfz22_7 := blk_frozen BK186.out 7
        go_wp2_with (first | (go_at_call 31; (with_reducible refine (rivuletref03_Right.calls kj1 a0_4 true _ A14.out).mono ?_); rintro e w23 ⟨rfl, hb⟩; have n0_ := Aside0.mk (blk_below (g := gb186) (o := .cells #[.int .i64 a0_0, .int .i64 a0_1, .int .i64 a0_2, .int .i64 a0_3, .string a0_4, .string a0_5, .bool a0_6, .int .i64 a0_7] 23 (0, 0)) (by (with_reducible repeat (first | refine blk_drewN ?_ _ | refine blk_drew ?_ | refine blk_alloc ?_ _)); exact BK186.out) hb); have n1_ := Aside0.mk (below_step (by repeat (first | (with_reducible first | exact HB.out | apply below_alloc | apply pw_below_drewN | apply below_drew1 | refine below_set ?_ GE186.out) | exact HB.out)) hb); clear BK186; clear HB; have BK186 := n0_; have HB := n1_; clear n0_ n1_; (try clear hb); (try clear hb2); (try clear hk); (try clear hi); have hcz24_0 : w23.cell? ⟨gb186, 0, none⟩ = some (.int .i64 a0_0) := (blk_cell BK186.out 0).trans rfl; have hcz24_1 : w23.cell? ⟨gb186, 1, none⟩ = some (.int .i64 a0_1) := (blk_cell BK186.out 1).trans rfl; have hcz24_2 : w23.cell? ⟨gb186, 2, none⟩ = some (.int .i64 a0_2) := (blk_cell BK186.out 2).trans rfl; have hcz24_3 : w23.cell? ⟨gb186, 3, none⟩ = some (.int .i64 a0_3) := (blk_cell BK186.out 3).trans rfl; have hcz24_4 : w23.cell? ⟨gb186, 4, none⟩ = some (.string a0_4) := (blk_cell BK186.out 4).trans rfl; have hcz24_5 : w23.cell? ⟨gb186, 5, none⟩ = some (.string a0_5) := (blk_cell BK186.out 5).trans rfl; have hcz24_6 : w23.cell? ⟨gb186, 6, none⟩ = some (.bool a0_6) := (blk_cell BK186.out 6).trans rfl; have hcz24_7 : w23.cell? ⟨gb186, 7, none⟩ = some (.int .i64 a0_7) := (blk_cell BK186.out 7).trans rfl; have hfz24_0 := blk_frozen BK186.out 0; have hfz24_1 := blk_frozen BK186.out 1; have hfz24_2 := blk_frozen BK186.out 2; have hfz24_3 := blk_frozen BK186.out 3; have hfz24_4 := blk_frozen BK186.out 4; have hfz24_5 := blk_frozen BK186.out 5; have hfz24_6 := blk_frozen BK186.out 6; have hfz24_7 := blk_frozen BK186.out 7))
        go_meet
        case rel => exact ⟨_, (false), (by first | rfl | (simp; done) | (simp [*]; done)), H', ⟨by have := HJ1.out; first | omega | exact Nat.le_refl _⟩, ⟨by (with_reducible repeat (first | refine blk_drewN ?_ _ | refine blk_drew ?_ | refine blk_alloc ?_ _)); exact BK186.out⟩, ⟨by repeat (first | (with_reducible first | exact HB.out | apply below_alloc | apply pw_below_drewN | apply below_drew1 | refine below_set ?_ GE186.out) | exact HB.out)⟩⟩
      ·replace c15 := Bool.eq_false_iff.mpr c15
       subst c15
       have H1 : (rivuletref23_Right.j1 kj1 true a0_0 a0_1 a0_2 a0_3 a0_4 a0_5 a0_6 a0_7) = some r := by rw [if_neg (show ¬ (false = true) by decide)] at H; exact H
       clear H
       have H := H1
       clear H1
       have H' := Aside0.mk H
       clear H
       have hcz25_0 : wc.cell? ⟨gb186, 0, none⟩ = some (.int .i64 a0_0) := (blk_cell BK186.out 0).trans rfl
       have hcz25_1 : wc.cell? ⟨gb186, 1, none⟩ = some (.int .i64 a0_1) := (blk_cell BK186.out 1).trans rfl
       have hcz25_2 : wc.cell? ⟨gb186, 2, none⟩ = some (.int .i64 a0_2) := (blk_cell BK186.out 2).trans rfl
       have hcz25_3 : wc.cell? ⟨gb186, 3, none⟩ = some (.int .i64 a0_3) := (blk_cell BK186.out 3).trans rfl
       have hcz25_4 : wc.cell? ⟨gb186, 4, none⟩ = some (.string a0_4) := (blk_cell BK186.out 4).trans rfl
       have hcz25_5 : wc.cell? ⟨gb186, 5, none⟩ = some (.string a0_5) := (blk_cell BK186.out 5).trans rfl
       have hcz25_6 : wc.cell? ⟨gb186, 6, none⟩ = some (.bool a0_6) := (blk_cell BK186.out 6).trans rfl
       have hcz25_7 : wc.cell? ⟨gb186, 7, none⟩ = some (.int .i64 a0_7) := (blk_cell BK186.out 7).trans rfl
       have hfz25_0 := blk_frozen BK186.out 0
       have hfz25_1 := blk_frozen BK186.out 1
       have hfz25_2 := blk_frozen BK186.out 2
       have hfz25_3 := blk_frozen BK186.out 3
       have hfz25_4 := blk_frozen BK186.out 4
       have hfz25_5 := blk_frozen BK186.out 5
       have hfz25_6 := blk_frozen BK186.out 6
       have hfz25_7 := blk_frozen BK186.out 7
       go_wp2_with (first | (go_at_call 31; (with_reducible refine (rivuletref03_Right.calls kj1 a0_4 false _ A14.out).mono ?_); rintro e w26 ⟨rfl, hb⟩; have n0_ := Aside0.mk (blk_below (g := gb186) (o := .cells #[.int .i64 a0_0, .int .i64 a0_1, .int .i64 a0_2, .int .i64 a0_3, .string a0_4, .string a0_5, .bool a0_6, .int .i64 a0_7] 23 (0, 0)) (by (with_reducible repeat (first | refine blk_drewN ?_ _ | refine blk_drew ?_ | refine blk_alloc ?_ _)); exact BK186.out) hb); have n1_ := Aside0.mk (below_step (by repeat (first | (with_reducible first | exact HB.out | apply below_alloc | apply pw_below_drewN | apply below_drew1 | refine below_set ?_ GE186.out) | exact HB.out)) hb); clear BK186; clear HB; have BK186 := n0_; have HB := n1_; clear n0_ n1_; (try clear hb); (try clear hb2); (try clear hk); (try clear hi)))
       go_meet
       case rel => exact ⟨_, (true), (by first | rfl | (simp; done) | (simp [*]; done)), H', ⟨by have := HJ1.out; first | omega | exact Nat.le_refl _⟩, ⟨by (with_reducible repeat (first | refine blk_drewN ?_ _ | refine blk_drew ?_ | refine blk_alloc ?_ _)); exact BK186.out⟩, ⟨by repeat (first | (with_reducible first | exact HB.out | apply below_alloc | apply pw_below_drewN | apply below_drew1 | refine below_set ?_ GE186.out) | exact HB.out)⟩⟩
     ·rw [if_neg c13] at H
      have c13b0 : (a0_0 == 0) = false := beq_eq_false_iff_ne.mpr c13
      have c13b1 : (a0_0 != 0) = true := bne_iff_ne.mpr c13
      (first | rw [c13b0] | (simp only [i64_w, i32_w]; rw [c13b0]) | skip)
      by_cases c27 : a0_0 = 3
      ·rw [if_pos c27] at H
       have c27b0 : (a0_0 == 3) = true := beq_iff_eq.mpr c27
       have c27b1 : (a0_0 != 3) = false := bne_eq_false_iff_eq.mpr c27
       clear c27
       replace H := Option.bind_eq_some_iff.mp H
       obtain ⟨t197, A280, H⟩ := H
       replace H : (rivuletref23_Right.j1 kj1 (!t197) a0_0 a0_1 a0_2 a0_3 a0_4 a0_5 a0_6 a0_7) = some r := H
       have A28 := Aside0.mk A280
       clear A280
       have H' := Aside0.mk H
       clear H
       have hcz29_0 : wc.cell? ⟨gb186, 0, none⟩ = some (.int .i64 a0_0) := (blk_cell BK186.out 0).trans rfl
       have hcz29_1 : wc.cell? ⟨gb186, 1, none⟩ = some (.int .i64 a0_1) := (blk_cell BK186.out 1).trans rfl
       have hcz29_2 : wc.cell? ⟨gb186, 2, none⟩ = some (.int .i64 a0_2) := (blk_cell BK186.out 2).trans rfl
       have hcz29_3 : wc.cell? ⟨gb186, 3, none⟩ = some (.int .i64 a0_3) := (blk_cell BK186.out 3).trans rfl
       have hcz29_4 : wc.cell? ⟨gb186, 4, none⟩ = some (.string a0_4) := (blk_cell BK186.out 4).trans rfl
       have hcz29_5 : wc.cell? ⟨gb186, 5, none⟩ = some (.string a0_5) := (blk_cell BK186.out 5).trans rfl
       have hcz29_6 : wc.cell? ⟨gb186, 6, none⟩ = some (.bool a0_6) := (blk_cell BK186.out 6).trans rfl
       have hcz29_7 : wc.cell? ⟨gb186, 7, none⟩ = some (.int .i64 a0_7) := (blk_cell BK186.out 7).trans rfl
       have hfz29_0 := blk_frozen BK186.out 0
       have hfz29_1 := blk_frozen BK186.out 1
       have hfz29_2 := blk_frozen BK186.out 2
       have hfz29_3 := blk_frozen BK186.out 3
       have hfz29_4 := blk_frozen BK186.out 4
       have hfz29_5 := blk_frozen BK186.out 5
       have hfz29_6 := blk_frozen BK186.out 6
       have hfz29_7 := blk_frozen BK186.out 7
       go_wp2_with (first | (go_at_call 32; (with_reducible refine (rivuletref03_Filter.calls kj1 a0_4 t197 _ A28.out).mono ?_); rintro e w30 ⟨rfl, hb⟩; have n0_ := Aside0.mk (blk_below (g := gb186) (o := .cells #[.int .i64 a0_0, .int .i64 a0_1, .int .i64 a0_2, .int .i64 a0_3, .string a0_4, .string a0_5, .bool a0_6, .int .i64 a0_7] 23 (0, 0)) (by (with_reducible repeat (first | refine blk_drewN ?_ _ | refine blk_drew ?_ | refine blk_alloc ?_ _)); exact BK186.out) hb); have n1_ := Aside0.mk (below_step (by repeat (first | (with_reducible first | exact HB.out | apply below_alloc | apply pw_below_drewN | apply below_drew1 | refine below_set ?_ GE186.out) | exact HB.out)) hb); clear BK186; clear HB; have BK186 := n0_; have HB := n1_; clear n0_ n1_; (try clear hb); (try clear hb2); (try clear hk); (try clear hi)))
       go_meet
       case rel => exact ⟨_, (!t197), (by first | rfl | (simp; done) | (simp [*]; done)), H', ⟨by have := HJ1.out; first | omega | exact Nat.le_refl _⟩, ⟨by (with_reducible repeat (first | refine blk_drewN ?_ _ | refine blk_drew ?_ | refine blk_alloc ?_ _)); exact BK186.out⟩, ⟨by repeat (first | (with_reducible first | exact HB.out | apply below_alloc | apply pw_below_drewN | apply below_drew1 | refine below_set ?_ GE186.out) | exact HB.out)⟩⟩
      ·rw [if_neg c27] at H
       have c27b0 : (a0_0 == 3) = false := beq_eq_false_iff_ne.mpr c27
       have c27b1 : (a0_0 != 3) = true := bne_iff_ne.mpr c27
       have H' := Aside0.mk H
       clear H
       have hcz31_0 : wc.cell? ⟨gb186, 0, none⟩ = some (.int .i64 a0_0) := (blk_cell BK186.out 0).trans rfl
       have hcz31_1 : wc.cell? ⟨gb186, 1, none⟩ = some (.int .i64 a0_1) := (blk_cell BK186.out 1).trans rfl
       have hcz31_2 : wc.cell? ⟨gb186, 2, none⟩ = some (.int .i64 a0_2) := (blk_cell BK186.out 2).trans rfl
       have hcz31_3 : wc.cell? ⟨gb186, 3, none⟩ = some (.int .i64 a0_3) := (blk_cell BK186.out 3).trans rfl
       have hcz31_4 : wc.cell? ⟨gb186, 4, none⟩ = some (.string a0_4) := (blk_cell BK186.out 4).trans rfl
       have hcz31_5 : wc.cell? ⟨gb186, 5, none⟩ = some (.string a0_5) := (blk_cell BK186.out 5).trans rfl
       have hcz31_6 : wc.cell? ⟨gb186, 6, none⟩ = some (.bool a0_6) := (blk_cell BK186.out 6).trans rfl
       have hcz31_7 : wc.cell? ⟨gb186, 7, none⟩ = some (.int .i64 a0_7) := (blk_cell BK186.out 7).trans rfl
       have hfz31_0 := blk_frozen BK186.out 0
       have hfz31_1 := blk_frozen BK186.out 1
       have hfz31_2 := blk_frozen BK186.out 2
       have hfz31_3 := blk_frozen BK186.out 3
       have hfz31_4 := blk_frozen BK186.out 4
       have hfz31_5 := blk_frozen BK186.out 5
       have hfz31_6 := blk_frozen BK186.out 6
       have hfz31_7 := blk_frozen BK186.out 7
       go_wp2
       go_meet
       case rel => exact ⟨_, (false), (by first | rfl | (simp; done) | (simp [*]; done)), H', ⟨by have := HJ1.out; first | omega | exact Nat.le_refl _⟩, ⟨by (with_reducible repeat (first | refine blk_drewN ?_ _ | refine blk_drew ?_ | refine blk_alloc ?_ _)); exact BK186.out⟩, ⟨by repeat (first | (with_reducible first | exact HB.out | apply below_alloc | apply pw_below_drewN | apply below_drew1 | refine below_set ?_ GE186.out) | exact HB.out)⟩⟩
    case rest =>
     clear HC12
     try clear c1
     try clear c2
     try clear p2
     try clear c4
     try clear c4b0
     try clear c6
     try clear c6b0
     try clear c11
     try clear c12
     try clear c13
     try clear c13b0
     try clear c13b1
     try clear c14
     try clear c15
     try clear c16
     try clear c16b0
     try clear c16b1
     try clear c27
     try clear c27b0
     try clear c27b1
     try clear hcz18_0
     try clear hcz18_1
     try clear hcz18_2
     try clear hcz18_3
     try clear hcz18_4
     try clear hcz18_5
     try clear hcz18_6
     try clear hcz18_7
     try clear hcz20_0
     try clear hcz20_1
     try clear hcz20_2
     try clear hcz20_3
     try clear hcz20_4
     try clear hcz20_5
     try clear hcz20_6
     try clear hcz20_7
     try clear hcz22_0
     try clear hcz22_1
     try clear hcz22_2
     try clear hcz22_3
     try clear hcz22_4
     try clear hcz22_5
     try clear hcz22_6
     try clear hcz22_7
     try clear hcz24_0
     try clear hcz24_1
     try clear hcz24_2
     try clear hcz24_3
     try clear hcz24_4
     try clear hcz24_5
     try clear hcz24_6
     try clear hcz24_7
     try clear hcz25_0
     try clear hcz25_1
     try clear hcz25_2
     try clear hcz25_3
     try clear hcz25_4
     try clear hcz25_5
     try clear hcz25_6
     try clear hcz25_7
     try clear hcz29_0
     try clear hcz29_1
     try clear hcz29_2
     try clear hcz29_3
     try clear hcz29_4
     try clear hcz29_5
     try clear hcz29_6
     try clear hcz29_7
     try clear hcz31_0
     try clear hcz31_1
     try clear hcz31_2
     try clear hcz31_3
     try clear hcz31_4
     try clear hcz31_5
     try clear hcz31_6
     try clear hcz31_7
     try clear hfz18_0
     try clear hfz18_1
     try clear hfz18_2
     try clear hfz18_3
     try clear hfz18_4
     try clear hfz18_5
     try clear hfz18_6
     try clear hfz18_7
     try clear hfz20_0
     try clear hfz20_1
     try clear hfz20_2
     try clear hfz20_3
     try clear hfz20_4
     try clear hfz20_5
     try clear hfz20_6
     try clear hfz20_7
     try clear hfz22_0
     try clear hfz22_1
     try clear hfz22_2
     try clear hfz22_3
     try clear hfz22_4
     try clear hfz22_5
     try clear hfz22_6
     try clear hfz22_7
     try clear hfz24_0
     try clear hfz24_1
     try clear hfz24_2
     try clear hfz24_3
     try clear hfz24_4
     try clear hfz24_5
     try clear hfz24_6
     try clear hfz24_7
     try clear hfz25_0
     try clear hfz25_1
     try clear hfz25_2
     try clear hfz25_3
     try clear hfz25_4
     try clear hfz25_5
     try clear hfz25_6
     try clear hfz25_7
     try clear hfz29_0
     try clear hfz29_1
     try clear hfz29_2
     try clear hfz29_3
     try clear hfz29_4
     try clear hfz29_5
     try clear hfz29_6
     try clear hfz29_7
     try clear hfz31_0
     try clear hfz31_1
     try clear hfz31_2
     try clear hfz31_3
     try clear hfz31_4
     try clear hfz31_5
     try clear hfz31_6
     try clear hfz31_7
     try clear p2
     obtain ⟨kq, x36_11, rfl, HA, HJ11, BK186, HB⟩ := hcut
     cases kq with
     | zero => exact absurd HA.out (by simp [rivuletref23_Right.j1])
     | succ kj11 =>
      have H := HA.out
      clear HA
      simp only [rivuletref23_Right.j1] at H
      by_cases c32 : x36_11 = true
      ·subst c32
       have H1 : (some false) = some r := by rw [if_pos rfl] at H; exact H
       clear H
       have H := H1
       clear H1
       obtain rfl := Option.some.inj H
       go_wp2
       go_ret
       exact ⟨by first | rfl | (simp [errW_none, errW_some] <;> rfl) | (simp [*, errW_none, errW_some] <;> rfl), by repeat (first | (with_reducible first | exact HB.out | apply below_alloc | apply pw_below_drewN | apply below_drew1 | refine below_set ?_ GE186.out) | exact HB.out)⟩
      ·replace c32 := Bool.eq_false_iff.mpr c32
       subst c32
       have H1 : ((rivuletref23_in.f a0_1 7).bind fun t198 => (if t198 = true then ((rivuletref23_in.f a0_2 1099511627776).bind fun t199 => (if t199 = true then ((rivuletref23_in.f a0_3 1099511627776).bind fun t200 => (if t200 = true then ((rivuletref23_in.f a0_7 1000).bind fun t201 => (if t201 = true then (some (decide ((a0_5.size : Int) ≤ 64))) else (some false))) else (some false))) else (some false))) else (some false))) = some r := by rw [if_neg (show ¬ (false = true) by decide)] at H; exact H
       clear H
       have H := H1
       clear H1
       replace H := Option.bind_eq_some_iff.mp H
       obtain ⟨t198, A330, H⟩ := H
       replace H : (if t198 = true then ((rivuletref23_in.f a0_2 1099511627776).bind fun t199 => (if t199 = true then ((rivuletref23_in.f a0_3 1099511627776).bind fun t200 => (if t200 = true then ((rivuletref23_in.f a0_7 1000).bind fun t201 => (if t201 = true then (some (decide ((a0_5.size : Int) ≤ 64))) else (some false))) else (some false))) else (some false))) else (some false)) = some r := H
       have A33 := Aside0.mk A330
       clear A330
       by_cases c34 : t198 = true
       ·subst c34
        have H1 : ((rivuletref23_in.f a0_2 1099511627776).bind fun t199 => (if t199 = true then ((rivuletref23_in.f a0_3 1099511627776).bind fun t200 => (if t200 = true then ((rivuletref23_in.f a0_7 1000).bind fun t201 => (if t201 = true then (some (decide ((a0_5.size : Int) ≤ 64))) else (some false))) else (some false))) else (some false))) = some r := by rw [if_pos rfl] at H; exact H
        clear H
        have H := H1
        clear H1
        replace H := Option.bind_eq_some_iff.mp H
        obtain ⟨t199, A350, H⟩ := H
        replace H : (if t199 = true then ((rivuletref23_in.f a0_3 1099511627776).bind fun t200 => (if t200 = true then ((rivuletref23_in.f a0_7 1000).bind fun t201 => (if t201 = true then (some (decide ((a0_5.size : Int) ≤ 64))) else (some false))) else (some false))) else (some false)) = some r := H
        have A35 := Aside0.mk A350
        clear A350
        by_cases c36 : t199 = true
        ·subst c36
         have H1 : ((rivuletref23_in.f a0_3 1099511627776).bind fun t200 => (if t200 = true then ((rivuletref23_in.f a0_7 1000).bind fun t201 => (if t201 = true then (some (decide ((a0_5.size : Int) ≤ 64))) else (some false))) else (some false))) = some r := by rw [if_pos rfl] at H; exact H
         clear H
         have H := H1
         clear H1
         replace H := Option.bind_eq_some_iff.mp H
         obtain ⟨t200, A370, H⟩ := H
         replace H : (if t200 = true then ((rivuletref23_in.f a0_7 1000).bind fun t201 => (if t201 = true then (some (decide ((a0_5.size : Int) ≤ 64))) else (some false))) else (some false)) = some r := H
         have A37 := Aside0.mk A370
         clear A370
         by_cases c38 : t200 = true
         ·subst c38
          have H1 : ((rivuletref23_in.f a0_7 1000).bind fun t201 => (if t201 = true then (some (decide ((a0_5.size : Int) ≤ 64))) else (some false))) = some r := by rw [if_pos rfl] at H; exact H
          clear H
          have H := H1
          clear H1
          replace H := Option.bind_eq_some_iff.mp H
          obtain ⟨t201, A390, H⟩ := H
          replace H : (if t201 = true then (some (decide ((a0_5.size : Int) ≤ 64))) else (some false)) = some r := H
          have A39 := Aside0.mk A390
          clear A390
          by_cases c40 : t201 = true
          ·subst c40
           have H1 : (some (decide ((a0_5.size : Int) ≤ 64))) = some r := by rw [if_pos rfl] at H; exact H
           clear H
           have H := H1
           clear H1
           obtain rfl := Option.some.inj H
           have hcz41_0 : wc.cell? ⟨gb186, 0, none⟩ = some (.int .i64 a0_0) := (blk_cell BK186.out 0).trans rfl
           have hcz41_1 : wc.cell? ⟨gb186, 1, none⟩ = some (.int .i64 a0_1) := (blk_cell BK186.out 1).trans rfl
           have hcz41_2 : wc.cell? ⟨gb186, 2, none⟩ = some (.int .i64 a0_2) := (blk_cell BK186.out 2).trans rfl
           have hcz41_3 : wc.cell? ⟨gb186, 3, none⟩ = some (.int .i64 a0_3) := (blk_cell BK186.out 3).trans rfl
           have hcz41_4 : wc.cell? ⟨gb186, 4, none⟩ = some (.string a0_4) := (blk_cell BK186.out 4).trans rfl
           have hcz41_5 : wc.cell? ⟨gb186, 5, none⟩ = some (.string a0_5) := (blk_cell BK186.out 5).trans rfl
           have hcz41_6 : wc.cell? ⟨gb186, 6, none⟩ = some (.bool a0_6) := (blk_cell BK186.out 6).trans rfl
           have hcz41_7 : wc.cell? ⟨gb186, 7, none⟩ = some (.int .i64 a0_7) := (blk_cell BK186.out 7).trans rfl
           have hfz41_0 := blk_frozen BK186.out 0
           have hfz41_1 := blk_frozen BK186.out 1
           have hfz41_2 := blk_frozen BK186.out 2
           have hfz41_3 := blk_frozen BK186.out 3
           have hfz41_4 := blk_frozen BK186.out 4
           have hfz41_5 := blk_frozen BK186.out 5
           have hfz41_6 := blk_frozen BK186.out 6
           have hfz41_7 := blk_frozen BK186.out 7
           go_wp2_with (first | ((with_reducible refine gate_callee (f := 33) rfl ?_); refine goesL_ (some 39) rfl rfl Tryd.func33 (by kernel_rfl) rfl #[.int .i64 a0_1, .int .i64 7] rfl (by (try simp only [List.map_toArray, List.map_cons, List.map_nil]); first | done | rfl | (simp only [List.length_drop, List.length_take]; rfl)) ?_; (with_reducible refine (rivuletref23_in.calls a0_1 7 true _ A33.out).mono ?_); rintro e w' ⟨rfl, ⟨nd, rfl⟩⟩; refine ⟨_, rfl, ?_⟩) | (go_at_call 33; (with_reducible refine (rivuletref23_in.calls a0_2 1099511627776 true _ A35.out).mono ?_); rintro e w' ⟨rfl, ⟨nd, rfl⟩⟩) | (go_at_call 33; (with_reducible refine (rivuletref23_in.calls a0_3 1099511627776 true _ A37.out).mono ?_); rintro e w' ⟨rfl, ⟨nd, rfl⟩⟩) | (go_at_call 33; (with_reducible refine (rivuletref23_in.calls a0_7 1000 true _ A39.out).mono ?_); rintro e w' ⟨rfl, ⟨nd, rfl⟩⟩))
           go_ret
           exact ⟨by first | rfl | (simp [errW_none, errW_some] <;> rfl) | (simp [*, errW_none, errW_some] <;> rfl), by repeat (first | (with_reducible first | exact HB.out | apply below_alloc | apply pw_below_drewN | apply below_drew1 | refine below_set ?_ GE186.out) | exact HB.out)⟩
          ·replace c40 := Bool.eq_false_iff.mpr c40
           subst c40
           have H1 : (some false) = some r := by rw [if_neg (show ¬ (false = true) by decide)] at H; exact H
           clear H
           have H := H1
           clear H1
           obtain rfl := Option.some.inj H
           have hcz42_0 : wc.cell? ⟨gb186, 0, none⟩ = some (.int .i64 a0_0) := (blk_cell BK186.out 0).trans rfl
           have hcz42_1 : wc.cell? ⟨gb186, 1, none⟩ = some (.int .i64 a0_1) := (blk_cell BK186.out 1).trans rfl
           have hcz42_2 : wc.cell? ⟨gb186, 2, none⟩ = some (.int .i64 a0_2) := (blk_cell BK186.out 2).trans rfl
           have hcz42_3 : wc.cell? ⟨gb186, 3, none⟩ = some (.int .i64 a0_3) := (blk_cell BK186.out 3).trans rfl
           have hcz42_4 : wc.cell? ⟨gb186, 4, none⟩ = some (.string a0_4) := (blk_cell BK186.out 4).trans rfl
           have hcz42_5 : wc.cell? ⟨gb186, 5, none⟩ = some (.string a0_5) := (blk_cell BK186.out 5).trans rfl
           have hcz42_6 : wc.cell? ⟨gb186, 6, none⟩ = some (.bool a0_6) := (blk_cell BK186.out 6).trans rfl
           have hcz42_7 : wc.cell? ⟨gb186, 7, none⟩ = some (.int .i64 a0_7) := (blk_cell BK186.out 7).trans rfl
           have hfz42_0 := blk_frozen BK186.out 0
           have hfz42_1 := blk_frozen BK186.out 1
           have hfz42_2 := blk_frozen BK186.out 2
           have hfz42_3 := blk_frozen BK186.out 3
           have hfz42_4 := blk_frozen BK186.out 4
           have hfz42_5 := blk_frozen BK186.out 5
           have hfz42_6 := blk_frozen BK186.out 6
           have hfz42_7 := blk_frozen BK186.out 7
           go_wp2_with (first | ((with_reducible refine gate_callee (f := 33) rfl ?_); refine goesL_ (some 39) rfl rfl Tryd.func33 (by kernel_rfl) rfl #[.int .i64 a0_1, .int .i64 7] rfl (by (try simp only [List.map_toArray, List.map_cons, List.map_nil]); first | done | rfl | (simp only [List.length_drop, List.length_take]; rfl)) ?_; (with_reducible refine (rivuletref23_in.calls a0_1 7 true _ A33.out).mono ?_); rintro e w' ⟨rfl, ⟨nd, rfl⟩⟩; refine ⟨_, rfl, ?_⟩) | (go_at_call 33; (with_reducible refine (rivuletref23_in.calls a0_2 1099511627776 true _ A35.out).mono ?_); rintro e w' ⟨rfl, ⟨nd, rfl⟩⟩) | (go_at_call 33; (with_reducible refine (rivuletref23_in.calls a0_3 1099511627776 true _ A37.out).mono ?_); rintro e w' ⟨rfl, ⟨nd, rfl⟩⟩) | (go_at_call 33; (with_reducible refine (rivuletref23_in.calls a0_7 1000 false _ A39.out).mono ?_); rintro e w' ⟨rfl, ⟨nd, rfl⟩⟩))
           go_ret
           exact ⟨by first | rfl | (simp [errW_none, errW_some] <;> rfl) | (simp [*, errW_none, errW_some] <;> rfl), by repeat (first | (with_reducible first | exact HB.out | apply below_alloc | apply pw_below_drewN | apply below_drew1 | refine below_set ?_ GE186.out) | exact HB.out)⟩
         ·replace c38 := Bool.eq_false_iff.mpr c38
          subst c38
          have H1 : (some false) = some r := by rw [if_neg (show ¬ (false = true) by decide)] at H; exact H
          clear H
          have H := H1
          clear H1
          obtain rfl := Option.some.inj H
          have hcz43_0 : wc.cell? ⟨gb186, 0, none⟩ = some (.int .i64 a0_0) := (blk_cell BK186.out 0).trans rfl
          have hcz43_1 : wc.cell? ⟨gb186, 1, none⟩ = some (.int .i64 a0_1) := (blk_cell BK186.out 1).trans rfl
          have hcz43_2 : wc.cell? ⟨gb186, 2, none⟩ = some (.int .i64 a0_2) := (blk_cell BK186.out 2).trans rfl
          have hcz43_3 : wc.cell? ⟨gb186, 3, none⟩ = some (.int .i64 a0_3) := (blk_cell BK186.out 3).trans rfl
          have hcz43_4 : wc.cell? ⟨gb186, 4, none⟩ = some (.string a0_4) := (blk_cell BK186.out 4).trans rfl
          have hcz43_5 : wc.cell? ⟨gb186, 5, none⟩ = some (.string a0_5) := (blk_cell BK186.out 5).trans rfl
          have hcz43_6 : wc.cell? ⟨gb186, 6, none⟩ = some (.bool a0_6) := (blk_cell BK186.out 6).trans rfl
          have hcz43_7 : wc.cell? ⟨gb186, 7, none⟩ = some (.int .i64 a0_7) := (blk_cell BK186.out 7).trans rfl
          have hfz43_0 := blk_frozen BK186.out 0
          have hfz43_1 := blk_frozen BK186.out 1
          have hfz43_2 := blk_frozen BK186.out 2
          have hfz43_3 := blk_frozen BK186.out 3
          have hfz43_4 := blk_frozen BK186.out 4
          have hfz43_5 := blk_frozen BK186.out 5
          have hfz43_6 := blk_frozen BK186.out 6
          have hfz43_7 := blk_frozen BK186.out 7
          go_wp2_with (first | ((with_reducible refine gate_callee (f := 33) rfl ?_); refine goesL_ (some 39) rfl rfl Tryd.func33 (by kernel_rfl) rfl #[.int .i64 a0_1, .int .i64 7] rfl (by (try simp only [List.map_toArray, List.map_cons, List.map_nil]); first | done | rfl | (simp only [List.length_drop, List.length_take]; rfl)) ?_; (with_reducible refine (rivuletref23_in.calls a0_1 7 true _ A33.out).mono ?_); rintro e w' ⟨rfl, ⟨nd, rfl⟩⟩; refine ⟨_, rfl, ?_⟩) | (go_at_call 33; (with_reducible refine (rivuletref23_in.calls a0_2 1099511627776 true _ A35.out).mono ?_); rintro e w' ⟨rfl, ⟨nd, rfl⟩⟩) | (go_at_call 33; (with_reducible refine (rivuletref23_in.calls a0_3 1099511627776 false _ A37.out).mono ?_); rintro e w' ⟨rfl, ⟨nd, rfl⟩⟩))
          go_ret
          exact ⟨by first | rfl | (simp [errW_none, errW_some] <;> rfl) | (simp [*, errW_none, errW_some] <;> rfl), by repeat (first | (with_reducible first | exact HB.out | apply below_alloc | apply pw_below_drewN | apply below_drew1 | refine below_set ?_ GE186.out) | exact HB.out)⟩
        ·replace c36 := Bool.eq_false_iff.mpr c36
         subst c36
         have H1 : (some false) = some r := by rw [if_neg (show ¬ (false = true) by decide)] at H; exact H
         clear H
         have H := H1
         clear H1
         obtain rfl := Option.some.inj H
         have hcz44_0 : wc.cell? ⟨gb186, 0, none⟩ = some (.int .i64 a0_0) := (blk_cell BK186.out 0).trans rfl
         have hcz44_1 : wc.cell? ⟨gb186, 1, none⟩ = some (.int .i64 a0_1) := (blk_cell BK186.out 1).trans rfl
         have hcz44_2 : wc.cell? ⟨gb186, 2, none⟩ = some (.int .i64 a0_2) := (blk_cell BK186.out 2).trans rfl
         have hcz44_3 : wc.cell? ⟨gb186, 3, none⟩ = some (.int .i64 a0_3) := (blk_cell BK186.out 3).trans rfl
         have hcz44_4 : wc.cell? ⟨gb186, 4, none⟩ = some (.string a0_4) := (blk_cell BK186.out 4).trans rfl
         have hcz44_5 : wc.cell? ⟨gb186, 5, none⟩ = some (.string a0_5) := (blk_cell BK186.out 5).trans rfl
         have hcz44_6 : wc.cell? ⟨gb186, 6, none⟩ = some (.bool a0_6) := (blk_cell BK186.out 6).trans rfl
         have hcz44_7 : wc.cell? ⟨gb186, 7, none⟩ = some (.int .i64 a0_7) := (blk_cell BK186.out 7).trans rfl
         have hfz44_0 := blk_frozen BK186.out 0
         have hfz44_1 := blk_frozen BK186.out 1
         have hfz44_2 := blk_frozen BK186.out 2
         have hfz44_3 := blk_frozen BK186.out 3
         have hfz44_4 := blk_frozen BK186.out 4
         have hfz44_5 := blk_frozen BK186.out 5
         have hfz44_6 := blk_frozen BK186.out 6
         have hfz44_7 := blk_frozen BK186.out 7
         go_wp2_with (first | ((with_reducible refine gate_callee (f := 33) rfl ?_); refine goesL_ (some 39) rfl rfl Tryd.func33 (by kernel_rfl) rfl #[.int .i64 a0_1, .int .i64 7] rfl (by (try simp only [List.map_toArray, List.map_cons, List.map_nil]); first | done | rfl | (simp only [List.length_drop, List.length_take]; rfl)) ?_; (with_reducible refine (rivuletref23_in.calls a0_1 7 true _ A33.out).mono ?_); rintro e w' ⟨rfl, ⟨nd, rfl⟩⟩; refine ⟨_, rfl, ?_⟩) | (go_at_call 33; (with_reducible refine (rivuletref23_in.calls a0_2 1099511627776 false _ A35.out).mono ?_); rintro e w' ⟨rfl, ⟨nd, rfl⟩⟩))
         go_ret
         exact ⟨by first | rfl | (simp [errW_none, errW_some] <;> rfl) | (simp [*, errW_none, errW_some] <;> rfl), by repeat (first | (with_reducible first | exact HB.out | apply below_alloc | apply pw_below_drewN | apply below_drew1 | refine below_set ?_ GE186.out) | exact HB.out)⟩
       ·replace c34 := Bool.eq_false_iff.mpr c34
        subst c34
        have H1 : (some false) = some r := by rw [if_neg (show ¬ (false = true) by decide)] at H; exact H
        clear H
        have H := H1
        clear H1
        obtain rfl := Option.some.inj H
        have hcz45_0 : wc.cell? ⟨gb186, 0, none⟩ = some (.int .i64 a0_0) := (blk_cell BK186.out 0).trans rfl
        have hcz45_1 : wc.cell? ⟨gb186, 1, none⟩ = some (.int .i64 a0_1) := (blk_cell BK186.out 1).trans rfl
        have hcz45_2 : wc.cell? ⟨gb186, 2, none⟩ = some (.int .i64 a0_2) := (blk_cell BK186.out 2).trans rfl
        have hcz45_3 : wc.cell? ⟨gb186, 3, none⟩ = some (.int .i64 a0_3) := (blk_cell BK186.out 3).trans rfl
        have hcz45_4 : wc.cell? ⟨gb186, 4, none⟩ = some (.string a0_4) := (blk_cell BK186.out 4).trans rfl
        have hcz45_5 : wc.cell? ⟨gb186, 5, none⟩ = some (.string a0_5) := (blk_cell BK186.out 5).trans rfl
        have hcz45_6 : wc.cell? ⟨gb186, 6, none⟩ = some (.bool a0_6) := (blk_cell BK186.out 6).trans rfl
        have hcz45_7 : wc.cell? ⟨gb186, 7, none⟩ = some (.int .i64 a0_7) := (blk_cell BK186.out 7).trans rfl
        have hfz45_0 := blk_frozen BK186.out 0
        have hfz45_1 := blk_frozen BK186.out 1
        have hfz45_2 := blk_frozen BK186.out 2
        have hfz45_3 := blk_frozen BK186.out 3
        have hfz45_4 := blk_frozen BK186.out 4
        have hfz45_5 := blk_frozen BK186.out 5
        have hfz45_6 := blk_frozen BK186.out 6
        have hfz45_7 := blk_frozen BK186.out 7
        go_wp2_with (first | ((with_reducible refine gate_callee (f := 33) rfl ?_); refine goesL_ (some 39) rfl rfl Tryd.func33 (by kernel_rfl) rfl #[.int .i64 a0_1, .int .i64 7] rfl (by (try simp only [List.map_toArray, List.map_cons, List.map_nil]); first | done | rfl | (simp only [List.length_drop, List.length_take]; rfl)) ?_; (with_reducible refine (rivuletref23_in.calls a0_1 7 false _ A33.out).mono ?_); rintro e w' ⟨rfl, ⟨nd, rfl⟩⟩; refine ⟨_, rfl, ?_⟩))
        go_ret
        exact ⟨by first | rfl | (simp [errW_none, errW_some] <;> rfl) | (simp [*, errW_none, errW_some] <;> rfl), by repeat (first | (with_reducible first | exact HB.out | apply below_alloc | apply pw_below_drewN | apply below_drew1 | refine below_set ?_ GE186.out) | exact HB.out)⟩
end Go.Proofs.YtjjimkmbbifbjaaDoor.Pv
