import Derived.Test.YtjjimkmbbifbjaaDoorKBack30
import Derived.Test.YtjjimkmbbifbjaaDoorKBack31
import Derived.Test.YtjjimkmbbifbjaaDoorKBack32
namespace Go.Proofs.YtjjimkmbbifbjaaDoor.Pr
open Go.RowKit Go.Proofs.YtjjimkmbbifbjaaDoorW.PrintWords Go.Proofs.YtjjimkmbbifbjaaDoorW.PrintLast Go.Proofs.YtjjimkmbbifbjaaDoorW.PrintMore
attribute [local go_sem] max2_int min2_int max_two min_two max_three min_three max_four min_four
set_option linter.unusedVariables false
set_option linter.unusedSimpArgs false
mutual
def rivuletlaw23_ScriptBack.l0 : Nat → List (S23) → ByteArray → ByteArray → List (S23) → Int → Option (Bool)
 | 0, _, _, _, _, _ => none
 | k + 1, x0, x1, x5, x6, x7 => if x7 < (x0.length : Int) then (if 0 ≤ x7 then ((script_Bare.f ((rd_T23 x0 x7).f0) ((rd_T23 x0 x7).f1) ((rd_T23 x0 x7).f2) ((rd_T23 x0 x7).f3) ((rd_T23 x0 x7).f4) ((rd_T23 x0 x7).f5) ((rd_T23 x0 x7).f6) ((rd_T23 x0 x7).f7)).bind fun bt373 => ((script_Put.f bt373.1 bt373.2.1 bt373.2.2.1 bt373.2.2.2.1 bt373.2.2.2.2.1 bt373.2.2.2.2.2.1 bt373.2.2.2.2.2.2.1 bt373.2.2.2.2.2.2.2).bind fun t382 => ((script_Right.f bt373.1 bt373.2.1 bt373.2.2.1 bt373.2.2.2.1 bt373.2.2.2.2.1 bt373.2.2.2.2.2.1 bt373.2.2.2.2.2.2.1 bt373.2.2.2.2.2.2.2).bind fun t383 => (if (t383 != (t382.toList != ([] : List UInt8))) = true then (some false) else (if t382.toList = ([] : List UInt8) then (rivuletlaw23_ScriptBack.l0 k x0 x1 x5 x6 (wrap64 (x7 + 1))) else (if x5.size + t382.size ≤ 9223372036854775807 then (if x6.length < 1759218604441 then (rivuletlaw23_ScriptBack.l0 k x0 x1 (x5 ++ t382) (x6 ++ [(⟨bt373.1, bt373.2.1, bt373.2.2.1, bt373.2.2.2.1, bt373.2.2.2.2.1, bt373.2.2.2.2.2.1, bt373.2.2.2.2.2.2.1, bt373.2.2.2.2.2.2.2⟩ : S23)]) (wrap64 (x7 + 1))) else (none)) else (none))))))) else (none)) else ((script_All.f k x5).bind fun bt387 => ((rivuletref23_Same.f k bt387.1 x6).bind fun t391 => (if t391 = true then (rivuletlaw23_ScriptBack.j1 k x1 (bt387.2 != (x5.size : Int))) else (rivuletlaw23_ScriptBack.j1 k x1 true))))
def rivuletlaw23_ScriptBack.j1 : Nat → ByteArray → Bool → Option (Bool)
 | 0, _, _ => none
 | k + 1, x1, x65 => if x65 = true then (some false) else ((script_All.f k x1).bind fun bt392 => (rivuletlaw23_ScriptBack.l1 k x1 bt392.1 bt392.2 ⟨#[]⟩ 0))
def rivuletlaw23_ScriptBack.l1 : Nat → ByteArray → List (S23) → Int → ByteArray → Int → Option (Bool)
 | 0, _, _, _, _, _ => none
 | k + 1, x1, x12, x13, x14, x15 => if x15 < (x12.length : Int) then (if 0 ≤ x15 then ((script_Right.f ((rd_T23 x12 x15).f0) ((rd_T23 x12 x15).f1) ((rd_T23 x12 x15).f2) ((rd_T23 x12 x15).f3) ((rd_T23 x12 x15).f4) ((rd_T23 x12 x15).f5) ((rd_T23 x12 x15).f6) ((rd_T23 x12 x15).f7)).bind fun t398 => (if t398 = true then ((script_Put.f ((rd_T23 x12 x15).f0) ((rd_T23 x12 x15).f1) ((rd_T23 x12 x15).f2) ((rd_T23 x12 x15).f3) ((rd_T23 x12 x15).f4) ((rd_T23 x12 x15).f5) ((rd_T23 x12 x15).f6) ((rd_T23 x12 x15).f7)).bind fun t400 => (if x14.size + t400.size ≤ 9223372036854775807 then (rivuletlaw23_ScriptBack.l1 k x1 x12 x13 (x14 ++ t400) (wrap64 (x15 + 1))) else (none))) else (some false))) else (none)) else (if x13 ≥ 0 then (if x13 ≤ (x1.size : Int) then (if 0 ≤ x13 then (if x14.toList = (x1.extract 0 (x13 : Int).toNat).toList then ((rivuletlaw23_fixed.f k).bind fun t396 => (some t396)) else (some false)) else (none)) else (some false)) else (some false))
end
def rivuletlaw23_ScriptBack.f (k : Nat) (l0 : List (S23)) (a1 : ByteArray) : Option (Bool) := (rivuletlaw23_Cut.f k l0).bind fun t366 => (if 0 ≤ (mn (a1.size : Int) 400) then (if (mn (a1.size : Int) 400) ≤ (a1.size : Int) then (rivuletlaw23_ScriptBack.l0 k t366 (a1.extract 0 ((mn (a1.size : Int) 400) : Int).toNat) ⟨#[]⟩ (([] : List (S23))) 0) else (none)) else (none))
set_option maxHeartbeats 8000000 in
set_option maxRecDepth 100000 in
theorem rivuletlaw23_ScriptBack.calls (k : Nat) (A0 : Option Addr) (c0 : Nat) (l0 : List (S23)) (a1 : ByteArray) (r : Bool) (w : World) (hr0 : Kd.C k23 w A0 l0.length l0) (hc0 : l0.length ≤ c0) (hr_ : Aside0 (r = true)) (h : rivuletlaw23_ScriptBack.f k l0 a1 = some r) :
  Calls Tryd.prog 5 #[.slice A0 l0.length c0, .string a1] w fun e w' => e = .returned (.bool r) ∧ Below w.heap.size w w' := by
 have hu23 := Tryd.underlying23
 have HR0 := Aside0.mk hr0
 have HC0 := Aside0.mk hc0
 clear hr0 hc0
 have HB := Aside0.mk (Below.refl w.heap.size w)
 have H : ((rivuletlaw23_Cut.f k l0).bind fun t366 => (if 0 ≤ (mn (a1.size : Int) 400) then (if (mn (a1.size : Int) 400) ≤ (a1.size : Int) then (rivuletlaw23_ScriptBack.l0 k t366 (a1.extract 0 ((mn (a1.size : Int) 400) : Int).toNat) ⟨#[]⟩ (([] : List (S23))) 0) else (none)) else (none))) = some r := h
 clear h
 replace H := Option.bind_eq_some_iff.mp H
 obtain ⟨t366, A30, H⟩ := H
 replace H : (if 0 ≤ (mn (a1.size : Int) 400) then (if (mn (a1.size : Int) 400) ≤ (a1.size : Int) then (rivuletlaw23_ScriptBack.l0 k t366 (a1.extract 0 ((mn (a1.size : Int) 400) : Int).toNat) ⟨#[]⟩ (([] : List (S23))) 0) else (none)) else (none)) = some r := H
 have A3 := Aside0.mk A30
 clear A30
 obtain ⟨ji4, hji4⟩ : ∃ j_ : Int, (mn (a1.size : Int) 400) = j_ := ⟨_, rfl⟩
 replace H : (if 0 ≤ (ji4) then (if (ji4) ≤ (a1.size : Int) then (rivuletlaw23_ScriptBack.l0 k t366 (a1.extract 0 ((ji4) : Int).toNat) ⟨#[]⟩ (([] : List (S23))) 0) else (none)) else (none)) = some r := by first | (rw [hji4] at H; exact H) | (simp only [hji4] at H ⊢; exact H)
 (try rw [hji4] at A3)
 (try (have hji4h : ji4 ≤ 400 := by (rw [← hji4]; unfold mn; (repeat' split) <;> omega)))
 (try (have hji4g : ji4 ≤ 64 := by omega))
 (try (have hji4l : 0 ≤ ji4 := by (rw [← hji4]; unfold mn; (repeat' split) <;> omega)))
 (try (have hji4m : 0 ≤ ji4 := by omega))
 have hji4_ : (if 400 < (a1.size : Int) then 400 else (a1.size : Int)) = ji4 := hji4
 obtain ⟨Sji4, hSji4⟩ : ∃ S_ : ByteArray, a1.extract 0 (ji4 : Int).toNat = S_ := ⟨_, rfl⟩
 simp only [hSji4] at H
 by_cases c5 : 0 ≤ (ji4)
 ·rw [if_pos c5] at H
  have c5b0 := eq_true c5
  have c5b1 : decide (0 ≤ (ji4)) = true := decide_eq_true c5
  clear c5
  by_cases c6 : (ji4) ≤ (a1.size : Int)
  ·rw [if_pos c6] at H
   have c6b0 := eq_true c6
   have c6b1 : decide ((ji4) ≤ (a1.size : Int)) = true := decide_eq_true c6
   clear c6
   obtain ⟨y369, hy369⟩ : ∃ y_ : List (S23), y_ = (([] : List (S23))) := ⟨_, rfl⟩
   replace H : (rivuletlaw23_ScriptBack.l0 k t366 Sji4 ⟨#[]⟩ y369 0) = some r := by first | (rw [hy369]; with_reducible exact H) | (have H2_ := (Option.bind_some _ _).symm.trans H; rw [hy369]; with_reducible exact H2_) | (have H2_ := (Option.bind_some _ _).symm.trans H; with_reducible exact H2_) | with_reducible exact H | (rw [hy369]; exact H) | exact H
   have Ny369 := Aside0.mk hy369
   clear hy369
   have H' := Aside0.mk H
   clear H
   go_enter Tryd.func5, Tryd.ntmps5
   go_wp2_with (first | ((with_reducible refine gate_callee (f := 10) rfl ?_); refine goesL_ (some 17) rfl rfl Tryd.func10 (by kernel_rfl) rfl #[.slice A0 l0.length c0] rfl (by (try simp only [List.map_toArray, List.map_cons, List.map_nil]); first | done | rfl | (simp only [List.length_drop, List.length_take]; rfl)) ?_; (with_reducible refine (rivuletlaw23_Cut.calls k _ _ l0 t366 _ ?side1 ?side2 A3.out).mono ?_); (case side1 => repeat (first | exact HR0.out | (with_reducible refine Kd.C_alloc ?_ _) | (with_reducible refine Kd.C_drewN ?_ _) | (with_reducible refine Kd.C_drew ?_))); (case side2 => exact HC0.out); rintro e w7 ⟨v367, rfl, ho0, hb⟩; refine ⟨_, rfl, ?_⟩; have n0_ := Aside0.mk (Kd.R_lower ho0 (below_size (by repeat (first | (with_reducible first | exact HB.out | apply below_alloc | apply pw_below_drewN | apply below_drew1) | exact HB.out)))); have n1_ := Aside0.mk (below_step (by repeat (first | (with_reducible first | exact HB.out | apply below_alloc | apply pw_below_drewN | apply below_drew1) | exact HB.out)) hb); clear HB; have HO368 := n0_; have HB := n1_; clear n0_ n1_; (try clear hb); (try clear hb2); (try clear hk); (try clear hi); (try clear ho0)) | ((with_reducible refine gate_dst (N := 23) rfl ?_); (try (refine gate_guard (by rfl) ?_; dsimp only)); refine Kd.R_lit k23 _ 23 ?hg (N := 23) ?hd (xs := ([] : List (S23))) (inner := []) (ok := fun _ => True) (okp := fun _ => True) ?hr ?hp (fun _ hk => hk) trivial (Below.refl _ _) (Nat.le_refl _) (by simp) ?_; (case hd => rfl); (case hg => rfl); (case hr => first | (go_simp; done) | (go_simp; rfl)); (case hp => exact (Reps.none _ _)); intro v370 w8 ho9 hb hg_ hnew_; clear hg_ hnew_; (first | rw [← Ny369.out] at ho9 | (simp only [Int.reduceToNat] at ho9; rw [← Ny369.out] at ho9)); have n0_ := Aside0.mk (Kd.R_elder' (by (with_reducible repeat (first | apply Kd.R_alloc | apply Kd.R_drewN | apply Kd.R_drew)); exact HO368.out) (Kd.R_base ho9) hb); have n1_ := Aside0.mk (Kd.R_lower (Kd.R_new' ho9 (Kd.R_lt (by (with_reducible repeat (first | apply Kd.R_alloc | apply Kd.R_drewN | apply Kd.R_drew)); exact HO368.out))) (below_size (by repeat (first | (with_reducible first | exact HB.out | apply below_alloc | apply pw_below_drewN | apply below_drew1) | exact HB.out)))); have n2_ := Aside0.mk (below_step (by repeat (first | (with_reducible first | exact HB.out | apply below_alloc | apply pw_below_drewN | apply below_drew1) | exact HB.out)) hb); clear HO368; clear HB; have HO368 := n0_; have HO371 := n1_; have HB := n2_; clear n0_ n1_ n2_; clear hb ho9))
   go_loopg [5, 6, 7] k (fun kq v5 v6 v7 w' => ∃ (x5_1 : ByteArray) (x6_1 : List (S23)) (x7_1 : Int), v5 = .string x5_1 ∧ v7 = .int .i64 x7_1 ∧ Aside0 (rivuletlaw23_ScriptBack.l0 kq t366 Sji4 x5_1 x6_1 x7_1 = some r) ∧ Aside0 (kq ≤ k) ∧ Aside0 (Kd.R k23 23 w' w.heap.size (fun k_ => some k_ ≠ (v6 : Value).ownBlock) v367 t366) ∧ Aside0 (Kd.R k23 23 w' w.heap.size (fun k_ => some k_ ≠ (v367 : Value).ownBlock) v6 x6_1) ∧ Aside0 (Below w.heap.size w w'))
   case atStart => exact ⟨((⟨#[]⟩ : ByteArray)), (y369), (0), (by first | rfl | (simp; done) | (simp [*]; done)), (by first | rfl | (simp; done) | (simp [*]; done)), H', ⟨Nat.le_refl _⟩, ⟨by (with_reducible repeat (first | apply Kd.R_alloc | apply Kd.R_drewN | apply Kd.R_drew)); exact Kd.R_mono HO368.out (fun _ hk => hk.2)⟩, ⟨by (with_reducible repeat (first | apply Kd.R_alloc | apply Kd.R_drewN | apply Kd.R_drew)); exact Kd.R_mono HO371.out (fun _ hk => hk.2)⟩, ⟨by repeat (first | (with_reducible first | exact HB.out | apply below_alloc | apply pw_below_drewN | apply below_drew1) | exact HB.out)⟩⟩
   case round =>
    clear H'
    try clear c1
    try clear p2
    try clear c5
    try clear c5b0
    try clear c5b1
    try clear c6
    try clear c6b0
    try clear c6b1
    obtain ⟨x5_1, x6_1, x7_1, rfl, rfl, HA, HK1, HO_0, HO_6, HB⟩ := hrel
    cases gk with
    | zero => exact absurd HA.out (by simp [rivuletlaw23_ScriptBack.l0])
    | succ k1 =>
     have H := HA.out
     clear HA
     simp only [rivuletlaw23_ScriptBack.l0] at H
     by_cases c10 : x7_1 < (t366.length : Int)
     ·rw [if_pos c10] at H
      have c10b0 : decide (x7_1 < (t366.length : Int)) = true := decide_eq_true c10
      clear c10
      by_cases c11 : 0 ≤ x7_1
      ·rw [if_pos c11] at H
       have c11b0 : decide (0 ≤ x7_1) = true := decide_eq_true c11
       clear c11
       replace H := Option.bind_eq_some_iff.mp H
       obtain ⟨⟨t373, t374, t375, t376, t377, t378, t379, t380⟩, A120, H⟩ := H
       replace H : ((script_Put.f t373 t374 t375 t376 t377 t378 t379 t380).bind fun t382 => ((script_Right.f t373 t374 t375 t376 t377 t378 t379 t380).bind fun t383 => (if (t383 != (t382.toList != ([] : List UInt8))) = true then (some false) else (if t382.toList = ([] : List UInt8) then (rivuletlaw23_ScriptBack.l0 k1 t366 Sji4 x5_1 x6_1 (wrap64 (x7_1 + 1))) else (if x5_1.size + t382.size ≤ 9223372036854775807 then (if x6_1.length < 1759218604441 then (rivuletlaw23_ScriptBack.l0 k1 t366 Sji4 (x5_1 ++ t382) (x6_1 ++ [(⟨t373, t374, t375, t376, t377, t378, t379, t380⟩ : S23)]) (wrap64 (x7_1 + 1))) else (none)) else (none)))))) = some r := H
       have A12 := Aside0.mk A120
       clear A120
       replace H := Option.bind_eq_some_iff.mp H
       obtain ⟨t382, A130, H⟩ := H
       replace H : ((script_Right.f t373 t374 t375 t376 t377 t378 t379 t380).bind fun t383 => (if (t383 != (t382.toList != ([] : List UInt8))) = true then (some false) else (if t382.toList = ([] : List UInt8) then (rivuletlaw23_ScriptBack.l0 k1 t366 Sji4 x5_1 x6_1 (wrap64 (x7_1 + 1))) else (if x5_1.size + t382.size ≤ 9223372036854775807 then (if x6_1.length < 1759218604441 then (rivuletlaw23_ScriptBack.l0 k1 t366 Sji4 (x5_1 ++ t382) (x6_1 ++ [(⟨t373, t374, t375, t376, t377, t378, t379, t380⟩ : S23)]) (wrap64 (x7_1 + 1))) else (none)) else (none))))) = some r := H
       have A13 := Aside0.mk A130
       clear A130
       replace H := Option.bind_eq_some_iff.mp H
       obtain ⟨t383, A140, H⟩ := H
       replace H : (if (t383 != (t382.toList != ([] : List UInt8))) = true then (some false) else (if t382.toList = ([] : List UInt8) then (rivuletlaw23_ScriptBack.l0 k1 t366 Sji4 x5_1 x6_1 (wrap64 (x7_1 + 1))) else (if x5_1.size + t382.size ≤ 9223372036854775807 then (if x6_1.length < 1759218604441 then (rivuletlaw23_ScriptBack.l0 k1 t366 Sji4 (x5_1 ++ t382) (x6_1 ++ [(⟨t373, t374, t375, t376, t377, t378, t379, t380⟩ : S23)]) (wrap64 (x7_1 + 1))) else (none)) else (none)))) = some r := H
       have A14 := Aside0.mk A140
       clear A140
       by_cases c15 : (t383 != (t382.toList != ([] : List UInt8))) = true
       ·rw [if_pos c15] at H
        have c15b0 : (t383 != (t382.toList != ([] : List UInt8))) = true := c15
        (try (have c15b1 : decide (t383 = (t382.toList != ([] : List UInt8))) = false := by simpa using c15))
        (try (have c15b2 : (t383 == (t382.toList != ([] : List UInt8))) = false := by simpa using c15))
        (try (have c15b3 : ¬ (t383 = (t382.toList != ([] : List UInt8))) := by simpa using c15))
        clear c15
        exact absurd (Option.some.inj H) (by rw [hr_.out]; decide)
       ·rw [if_neg c15] at H
        have c15b0 : (t383 != (t382.toList != ([] : List UInt8))) = false := by simpa using c15
        (try (have c15b1 : decide (t383 = (t382.toList != ([] : List UInt8))) = true := by simpa using c15))
        (try (have c15b2 : (t383 == (t382.toList != ([] : List UInt8))) = true := by simpa using c15))
        clear c15
        by_cases c16 : t382.toList = ([] : List UInt8)
        ·rw [if_pos c16] at H
         have c16b0 : (t382.toList == ([] : List UInt8)) = true := beq_iff_eq.mpr c16
         have c16b1 : (t382.toList != ([] : List UInt8)) = false := bne_eq_false_iff_eq.mpr c16
         have c16x : t383 = false := by
          have z_ := c15b0
          rw [c16b1] at z_
          simpa using z_
         clear c16
         have H' := Aside0.mk H
         clear H
         obtain ⟨Ao17, co17, eo17⟩ := Kd.R_slice HO_0.out
         subst eo17
         have p372 : 0 ≤ (x7_1 : Int) := of_decide_eq_true (by first | (with_reducible assumption) | assumption)
         have q372 : x7_1 < (t366.length : Int) := of_decide_eq_true (by first | (with_reducible assumption) | assumption)
         obtain ⟨ad372, e372, hx372_0, hx372_1, hx372_2, hx372_3, hx372_4, hx372_5, hx372_6, hx372_7⟩ := at_T23 (Kd.R_reads' HO_0.out).2.2 x7_1 p372 q372
         cases e372
         replace p372 := eq_true p372
         replace q372 := eq_true q372
         go_wp2_with (first | ((with_reducible refine gate_callee (f := 13) rfl ?_); refine goesL_ (some 34) rfl rfl Tryd.func13 (by kernel_rfl) rfl #[.agg #[.int .i64 ((rd_T23 t366 x7_1).f0), .int .i64 ((rd_T23 t366 x7_1).f1), .int .i64 ((rd_T23 t366 x7_1).f2), .int .i64 ((rd_T23 t366 x7_1).f3), .string ((rd_T23 t366 x7_1).f4), .string ((rd_T23 t366 x7_1).f5), .bool ((rd_T23 t366 x7_1).f6), .int .i64 ((rd_T23 t366 x7_1).f7)]] rfl (by (try simp only [List.map_toArray, List.map_cons, List.map_nil]); first | done | rfl | (simp only [List.length_drop, List.length_take]; rfl)) ?_; (with_reducible refine (script_Bare.calls ((rd_T23 t366 x7_1).f0) ((rd_T23 t366 x7_1).f1) ((rd_T23 t366 x7_1).f2) ((rd_T23 t366 x7_1).f3) ((rd_T23 t366 x7_1).f4) ((rd_T23 t366 x7_1).f5) ((rd_T23 t366 x7_1).f6) ((rd_T23 t366 x7_1).f7) t373 t374 t375 t376 t377 t378 t379 t380 _ A12.out).mono ?_); rintro e w18 ⟨rfl, hb⟩; refine ⟨_, rfl, ?_⟩; have n0_ := Aside0.mk (Kd.R_below (by (with_reducible repeat (first | apply Kd.R_alloc | apply Kd.R_drewN | apply Kd.R_drew)); exact HO_0.out) hb); have n1_ := Aside0.mk (Kd.R_below (by (with_reducible repeat (first | apply Kd.R_alloc | apply Kd.R_drewN | apply Kd.R_drew)); exact HO_6.out) hb); have n2_ := Aside0.mk (below_step (by repeat (first | (with_reducible first | exact HB.out | apply below_alloc | apply pw_below_drewN | apply below_drew1) | exact HB.out)) hb); clear HO_0; clear HO_6; clear HB; have HO_0 := n0_; have HO_6 := n1_; have HB := n2_; clear n0_ n1_ n2_; (try clear hb); (try clear hb2); (try clear hk); (try clear hi)) | ((with_reducible refine gate_dst (N := 8) rfl ?_); (try (refine gate_guard (by rfl) ?_; dsimp only)); refine box_event ?hg (N := 8) ?hd (cs := #[.int .i64 0, .int .i64 0, .int .i64 0, .int .i64 0, .string ⟨#[]⟩, .string ⟨#[]⟩, .bool false, .int .i64 0]) (t := 23) ?hr ?_; (case hd => rfl); (case hg => rfl); (case hr => first | (go_simp; done) | (go_simp; rfl)); intro gb381 hg w19 hbox hb; have n0_ := Aside0.mk (Kd.R_below (Kd.R_elderB (by (with_reducible repeat (first | apply Kd.R_alloc | apply Kd.R_drewN | apply Kd.R_drew)); exact HO_0.out) gb381 (Nat.le_of_eq hg.symm)) hb); have n1_ := Aside0.mk (Kd.R_below (Kd.R_elderB (by (with_reducible repeat (first | apply Kd.R_alloc | apply Kd.R_drewN | apply Kd.R_drew)); exact HO_6.out) gb381 (Nat.le_of_eq hg.symm)) hb); have n2_ := Aside0.mk (below_step (by repeat (first | (with_reducible first | exact HB.out | apply below_alloc | apply pw_below_drewN | apply below_drew1) | exact HB.out)) hb); have n3_ := Aside0.mk (hbox); have n4_ := Aside0.mk ((by rw [hg]; exact (below_size (by repeat (first | (with_reducible first | exact HB.out | apply below_alloc | apply pw_below_drewN | apply below_drew1) | exact HB.out))) : w.heap.size ≤ gb381)); have n5_ := Aside0.mk ((by rw [hg]; exact (below_size (by repeat (first | (with_reducible first | exact HB.out | apply below_alloc | apply pw_below_drewN | apply below_drew1) | exact HB.out))) : w.heap.size ≤ gb381)); clear HO_0; clear HO_6; clear HB; have HO_0 := n0_; have HO_6 := n1_; have HB := n2_; have BK381 := n3_; have GW381 := n4_; have GE381 := n5_; clear n0_ n1_ n2_ n3_ n4_ n5_; clear hb hbox hg; have hcz20_0 : w19.cell? ⟨gb381, 0, none⟩ = some (.int .i64 0) := (blk_cell BK381.out 0).trans rfl; have hcz20_1 : w19.cell? ⟨gb381, 1, none⟩ = some (.int .i64 0) := (blk_cell BK381.out 1).trans rfl; have hcz20_2 : w19.cell? ⟨gb381, 2, none⟩ = some (.int .i64 0) := (blk_cell BK381.out 2).trans rfl; have hcz20_3 : w19.cell? ⟨gb381, 3, none⟩ = some (.int .i64 0) := (blk_cell BK381.out 3).trans rfl; have hcz20_4 : w19.cell? ⟨gb381, 4, none⟩ = some (.string ⟨#[]⟩) := (blk_cell BK381.out 4).trans rfl; have hcz20_5 : w19.cell? ⟨gb381, 5, none⟩ = some (.string ⟨#[]⟩) := (blk_cell BK381.out 5).trans rfl; have hcz20_6 : w19.cell? ⟨gb381, 6, none⟩ = some (.bool false) := (blk_cell BK381.out 6).trans rfl; have hcz20_7 : w19.cell? ⟨gb381, 7, none⟩ = some (.int .i64 0) := (blk_cell BK381.out 7).trans rfl; have hfz20_0 := blk_frozen BK381.out 0; have hfz20_1 := blk_frozen BK381.out 1; have hfz20_2 := blk_frozen BK381.out 2; have hfz20_3 := blk_frozen BK381.out 3; have hfz20_4 := blk_frozen BK381.out 4; have hfz20_5 := blk_frozen BK381.out 5; have hfz20_6 := blk_frozen BK381.out 6; have hfz20_7 := blk_frozen BK381.out 7) | ((with_reducible refine gate_callee (f := 15) rfl ?_); refine goesL_ (some 36) rfl rfl Tryd.func15 (by kernel_rfl) rfl #[.agg #[.int .i64 t373, .int .i64 t374, .int .i64 t375, .int .i64 t376, .string t377, .string t378, .bool t379, .int .i64 t380]] rfl (by (try simp only [List.map_toArray, List.map_cons, List.map_nil]); first | done | rfl | (simp only [List.length_drop, List.length_take]; rfl)) ?_; (with_reducible refine (script_Put.calls t373 t374 t375 t376 t377 t378 t379 t380 t382 _ A13.out).mono ?_); rintro e w21 ⟨rfl, hb⟩; refine ⟨_, rfl, ?_⟩; have n0_ := Aside0.mk (Kd.R_below (by (with_reducible repeat (first | apply Kd.R_alloc | apply Kd.R_drewN | apply Kd.R_drew)); exact (Kd.R_mono (Kd.R_far (p := ⟨gb381, 7, none⟩) (Kd.R_far (p := ⟨gb381, 6, none⟩) (Kd.R_far (p := ⟨gb381, 5, none⟩) (Kd.R_far (p := ⟨gb381, 4, none⟩) (Kd.R_far (p := ⟨gb381, 3, none⟩) (Kd.R_far (p := ⟨gb381, 2, none⟩) (Kd.R_far (p := ⟨gb381, 1, none⟩) (Kd.R_far (p := ⟨gb381, 0, none⟩) (Kd.R_mono HO_0.out (fun k_ hk => (⟨hk, hk.2⟩ : _ ∧ k_ ≠ gb381))) (fun _ hk => hk.2) (.int .i64 t373)) (fun _ hk => hk.2) (.int .i64 t374)) (fun _ hk => hk.2) (.int .i64 t375)) (fun _ hk => hk.2) (.int .i64 t376)) (fun _ hk => hk.2) (.string t377)) (fun _ hk => hk.2) (.string t378)) (fun _ hk => hk.2) (.bool t379)) (fun _ hk => hk.2) (.int .i64 t380)) (fun _ h_ => h_.1))) hb); have n1_ := Aside0.mk (Kd.R_below (by (with_reducible repeat (first | apply Kd.R_alloc | apply Kd.R_drewN | apply Kd.R_drew)); exact (Kd.R_mono (Kd.R_far (p := ⟨gb381, 7, none⟩) (Kd.R_far (p := ⟨gb381, 6, none⟩) (Kd.R_far (p := ⟨gb381, 5, none⟩) (Kd.R_far (p := ⟨gb381, 4, none⟩) (Kd.R_far (p := ⟨gb381, 3, none⟩) (Kd.R_far (p := ⟨gb381, 2, none⟩) (Kd.R_far (p := ⟨gb381, 1, none⟩) (Kd.R_far (p := ⟨gb381, 0, none⟩) (Kd.R_mono HO_6.out (fun k_ hk => (⟨hk, hk.2⟩ : _ ∧ k_ ≠ gb381))) (fun _ hk => hk.2) (.int .i64 t373)) (fun _ hk => hk.2) (.int .i64 t374)) (fun _ hk => hk.2) (.int .i64 t375)) (fun _ hk => hk.2) (.int .i64 t376)) (fun _ hk => hk.2) (.string t377)) (fun _ hk => hk.2) (.string t378)) (fun _ hk => hk.2) (.bool t379)) (fun _ hk => hk.2) (.int .i64 t380)) (fun _ h_ => h_.1))) hb); have n2_ := Aside0.mk (blk_below (g := gb381) (o := .cells #[.int .i64 t373, .int .i64 t374, .int .i64 t375, .int .i64 t376, .string t377, .string t378, .bool t379, .int .i64 t380] 23 (0, 0)) (by (with_reducible repeat (first | refine blk_drewN ?_ _ | refine blk_drew ?_ | refine blk_alloc ?_ _)); refine blk_put (cs := #[.int .i64 t373, .int .i64 t374, .int .i64 t375, .int .i64 t376, .string t377, .string t378, .bool t379, .int .i64 0]) ?_ 7 _ rfl; (with_reducible repeat (first | refine blk_drewN ?_ _ | refine blk_drew ?_ | refine blk_alloc ?_ _)); refine blk_put (cs := #[.int .i64 t373, .int .i64 t374, .int .i64 t375, .int .i64 t376, .string t377, .string t378, .bool false, .int .i64 0]) ?_ 6 _ rfl; (with_reducible repeat (first | refine blk_drewN ?_ _ | refine blk_drew ?_ | refine blk_alloc ?_ _)); refine blk_put (cs := #[.int .i64 t373, .int .i64 t374, .int .i64 t375, .int .i64 t376, .string t377, .string ⟨#[]⟩, .bool false, .int .i64 0]) ?_ 5 _ rfl; (with_reducible repeat (first | refine blk_drewN ?_ _ | refine blk_drew ?_ | refine blk_alloc ?_ _)); refine blk_put (cs := #[.int .i64 t373, .int .i64 t374, .int .i64 t375, .int .i64 t376, .string ⟨#[]⟩, .string ⟨#[]⟩, .bool false, .int .i64 0]) ?_ 4 _ rfl; (with_reducible repeat (first | refine blk_drewN ?_ _ | refine blk_drew ?_ | refine blk_alloc ?_ _)); refine blk_put (cs := #[.int .i64 t373, .int .i64 t374, .int .i64 t375, .int .i64 0, .string ⟨#[]⟩, .string ⟨#[]⟩, .bool false, .int .i64 0]) ?_ 3 _ rfl; (with_reducible repeat (first | refine blk_drewN ?_ _ | refine blk_drew ?_ | refine blk_alloc ?_ _)); refine blk_put (cs := #[.int .i64 t373, .int .i64 t374, .int .i64 0, .int .i64 0, .string ⟨#[]⟩, .string ⟨#[]⟩, .bool false, .int .i64 0]) ?_ 2 _ rfl; (with_reducible repeat (first | refine blk_drewN ?_ _ | refine blk_drew ?_ | refine blk_alloc ?_ _)); refine blk_put (cs := #[.int .i64 t373, .int .i64 0, .int .i64 0, .int .i64 0, .string ⟨#[]⟩, .string ⟨#[]⟩, .bool false, .int .i64 0]) ?_ 1 _ rfl; (with_reducible repeat (first | refine blk_drewN ?_ _ | refine blk_drew ?_ | refine blk_alloc ?_ _)); refine blk_put (cs := #[.int .i64 0, .int .i64 0, .int .i64 0, .int .i64 0, .string ⟨#[]⟩, .string ⟨#[]⟩, .bool false, .int .i64 0]) ?_ 0 _ rfl; (with_reducible repeat (first | refine blk_drewN ?_ _ | refine blk_drew ?_ | refine blk_alloc ?_ _)); exact BK381.out) hb); have n3_ := Aside0.mk (below_step (by repeat (first | (with_reducible first | exact HB.out | apply below_alloc | apply pw_below_drewN | apply below_drew1 | refine below_set ?_ GE381.out) | exact HB.out)) hb); clear HO_0; clear HO_6; clear BK381; clear HB; have HO_0 := n0_; have HO_6 := n1_; have BK381 := n2_; have HB := n3_; clear n0_ n1_ n2_ n3_; (try clear hb); (try clear hb2); (try clear hk); (try clear hi); have hcz22_0 : w21.cell? ⟨gb381, 0, none⟩ = some (.int .i64 t373) := (blk_cell BK381.out 0).trans rfl; have hcz22_1 : w21.cell? ⟨gb381, 1, none⟩ = some (.int .i64 t374) := (blk_cell BK381.out 1).trans rfl; have hcz22_2 : w21.cell? ⟨gb381, 2, none⟩ = some (.int .i64 t375) := (blk_cell BK381.out 2).trans rfl; have hcz22_3 : w21.cell? ⟨gb381, 3, none⟩ = some (.int .i64 t376) := (blk_cell BK381.out 3).trans rfl; have hcz22_4 : w21.cell? ⟨gb381, 4, none⟩ = some (.string t377) := (blk_cell BK381.out 4).trans rfl; have hcz22_5 : w21.cell? ⟨gb381, 5, none⟩ = some (.string t378) := (blk_cell BK381.out 5).trans rfl; have hcz22_6 : w21.cell? ⟨gb381, 6, none⟩ = some (.bool t379) := (blk_cell BK381.out 6).trans rfl; have hcz22_7 : w21.cell? ⟨gb381, 7, none⟩ = some (.int .i64 t380) := (blk_cell BK381.out 7).trans rfl; have hfz22_0 := blk_frozen BK381.out 0; have hfz22_1 := blk_frozen BK381.out 1; have hfz22_2 := blk_frozen BK381.out 2; have hfz22_3 := blk_frozen BK381.out 3; have hfz22_4 := blk_frozen BK381.out 4; have hfz22_5 := blk_frozen BK381.out 5; have hfz22_6 := blk_frozen BK381.out 6; have hfz22_7 := blk_frozen BK381.out 7) | ((with_reducible refine gate_callee (f := 11) rfl ?_); refine goesL_ (some 38) rfl rfl Tryd.func11 (by kernel_rfl) rfl #[.agg #[.int .i64 t373, .int .i64 t374, .int .i64 t375, .int .i64 t376, .string t377, .string t378, .bool t379, .int .i64 t380]] rfl (by (try simp only [List.map_toArray, List.map_cons, List.map_nil]); first | done | rfl | (simp only [List.length_drop, List.length_take]; rfl)) ?_; (with_reducible refine (script_Right.calls t373 t374 t375 t376 t377 t378 t379 t380 t383 _ A14.out).mono ?_); rintro e w23 ⟨rfl, hb⟩; refine ⟨_, rfl, ?_⟩; have n0_ := Aside0.mk (Kd.R_below (by (with_reducible repeat (first | apply Kd.R_alloc | apply Kd.R_drewN | apply Kd.R_drew)); exact HO_0.out) hb); have n1_ := Aside0.mk (Kd.R_below (by (with_reducible repeat (first | apply Kd.R_alloc | apply Kd.R_drewN | apply Kd.R_drew)); exact HO_6.out) hb); have n2_ := Aside0.mk (blk_below (g := gb381) (o := .cells #[.int .i64 t373, .int .i64 t374, .int .i64 t375, .int .i64 t376, .string t377, .string t378, .bool t379, .int .i64 t380] 23 (0, 0)) (by (with_reducible repeat (first | refine blk_drewN ?_ _ | refine blk_drew ?_ | refine blk_alloc ?_ _)); exact BK381.out) hb); have n3_ := Aside0.mk (below_step (by repeat (first | (with_reducible first | exact HB.out | apply below_alloc | apply pw_below_drewN | apply below_drew1 | refine below_set ?_ GE381.out) | exact HB.out)) hb); clear HO_0; clear HO_6; clear BK381; clear HB; have HO_0 := n0_; have HO_6 := n1_; have BK381 := n2_; have HB := n3_; clear n0_ n1_ n2_ n3_; (try clear hb); (try clear hb2); (try clear hk); (try clear hi)))
         go_roundg k1
         case measure => have := HK1.out; omega
         case rel => exact ⟨(x5_1), (x6_1), (wrap64 (x7_1 + 1)), (by first | rfl | (simp; done) | (simp [*]; done)), (by first | rfl | (simp; done) | (simp [*]; done)), H', ⟨by have := HK1.out; omega⟩, ⟨by (with_reducible repeat (first | apply Kd.R_alloc | apply Kd.R_drewN | apply Kd.R_drew)); exact Kd.R_mono HO_0.out (fun _ hk => hk.1)⟩, ⟨by (with_reducible repeat (first | apply Kd.R_alloc | apply Kd.R_drewN | apply Kd.R_drew)); exact Kd.R_mono HO_6.out (fun _ hk => hk.1)⟩, ⟨by repeat (first | (with_reducible first | exact HB.out | apply below_alloc | apply pw_below_drewN | apply below_drew1 | refine below_set ?_ GE381.out) | exact HB.out)⟩⟩
        ·rw [if_neg c16] at H
         have c16b0 : (t382.toList == ([] : List UInt8)) = false := beq_eq_false_iff_ne.mpr c16
         have c16b1 : (t382.toList != ([] : List UInt8)) = true := bne_iff_ne.mpr c16
         have c16x : t383 = true := by
          have z_ := c15b0
          rw [c16b1] at z_
          simpa using z_
         by_cases c24 : x5_1.size + t382.size ≤ 9223372036854775807
         ·rw [if_pos c24] at H
          have c24b0 := eq_true c24
          have c24b1 : decide (x5_1.size + t382.size ≤ 9223372036854775807) = true := decide_eq_true c24
          try have c24b2 : (9223372036854775807 < x5_1.size + t382.size) = False := eq_false (Nat.not_lt.2 c24)
          by_cases c25 : x6_1.length < 1759218604441
          ·rw [if_pos c25] at H
           have LMc25 := Aside0.mk c25
           clear c25
           obtain ⟨y384, hy384⟩ : ∃ y_ : List (S23), y_ = (x6_1 ++ [(⟨t373, t374, t375, t376, t377, t378, t379, t380⟩ : S23)]) := ⟨_, rfl⟩
           replace H : (rivuletlaw23_ScriptBack.l0 k1 t366 Sji4 (x5_1 ++ t382) y384 (wrap64 (x7_1 + 1))) = some r := by first | (rw [hy384]; with_reducible exact H) | (have H2_ := (Option.bind_some _ _).symm.trans H; rw [hy384]; with_reducible exact H2_) | (have H2_ := (Option.bind_some _ _).symm.trans H; with_reducible exact H2_) | with_reducible exact H | (rw [hy384]; exact H) | exact H
           have Ny384 := Aside0.mk hy384
           clear hy384
           have H' := Aside0.mk H
           clear H
           obtain ⟨Ao26, co26, eo26⟩ := Kd.R_slice HO_0.out
           subst eo26
           have p372 : 0 ≤ (x7_1 : Int) := of_decide_eq_true (by first | (with_reducible assumption) | assumption)
           have q372 : x7_1 < (t366.length : Int) := of_decide_eq_true (by first | (with_reducible assumption) | assumption)
           obtain ⟨ad372, e372, hx372_0, hx372_1, hx372_2, hx372_3, hx372_4, hx372_5, hx372_6, hx372_7⟩ := at_T23 (Kd.R_reads' HO_0.out).2.2 x7_1 p372 q372
           cases e372
           replace p372 := eq_true p372
           replace q372 := eq_true q372
           go_wp2_with (first | ((with_reducible refine gate_callee (f := 13) rfl ?_); refine goesL_ (some 34) rfl rfl Tryd.func13 (by kernel_rfl) rfl #[.agg #[.int .i64 ((rd_T23 t366 x7_1).f0), .int .i64 ((rd_T23 t366 x7_1).f1), .int .i64 ((rd_T23 t366 x7_1).f2), .int .i64 ((rd_T23 t366 x7_1).f3), .string ((rd_T23 t366 x7_1).f4), .string ((rd_T23 t366 x7_1).f5), .bool ((rd_T23 t366 x7_1).f6), .int .i64 ((rd_T23 t366 x7_1).f7)]] rfl (by (try simp only [List.map_toArray, List.map_cons, List.map_nil]); first | done | rfl | (simp only [List.length_drop, List.length_take]; rfl)) ?_; (with_reducible refine (script_Bare.calls ((rd_T23 t366 x7_1).f0) ((rd_T23 t366 x7_1).f1) ((rd_T23 t366 x7_1).f2) ((rd_T23 t366 x7_1).f3) ((rd_T23 t366 x7_1).f4) ((rd_T23 t366 x7_1).f5) ((rd_T23 t366 x7_1).f6) ((rd_T23 t366 x7_1).f7) t373 t374 t375 t376 t377 t378 t379 t380 _ A12.out).mono ?_); rintro e w27 ⟨rfl, hb⟩; refine ⟨_, rfl, ?_⟩; have n0_ := Aside0.mk (Kd.R_below (by (with_reducible repeat (first | apply Kd.R_alloc | apply Kd.R_drewN | apply Kd.R_drew)); exact HO_0.out) hb); have n1_ := Aside0.mk (Kd.R_below (by (with_reducible repeat (first | apply Kd.R_alloc | apply Kd.R_drewN | apply Kd.R_drew)); exact HO_6.out) hb); have n2_ := Aside0.mk (below_step (by repeat (first | (with_reducible first | exact HB.out | apply below_alloc | apply pw_below_drewN | apply below_drew1) | exact HB.out)) hb); clear HO_0; clear HO_6; clear HB; have HO_0 := n0_; have HO_6 := n1_; have HB := n2_; clear n0_ n1_ n2_; (try clear hb); (try clear hb2); (try clear hk); (try clear hi)) | ((with_reducible refine gate_dst (N := 8) rfl ?_); (try (refine gate_guard (by rfl) ?_; dsimp only)); refine box_event ?hg (N := 8) ?hd (cs := #[.int .i64 0, .int .i64 0, .int .i64 0, .int .i64 0, .string ⟨#[]⟩, .string ⟨#[]⟩, .bool false, .int .i64 0]) (t := 23) ?hr ?_; (case hd => rfl); (case hg => rfl); (case hr => first | (go_simp; done) | (go_simp; rfl)); intro gb381 hg w28 hbox hb; have n0_ := Aside0.mk (Kd.R_below (Kd.R_elderB (by (with_reducible repeat (first | apply Kd.R_alloc | apply Kd.R_drewN | apply Kd.R_drew)); exact HO_0.out) gb381 (Nat.le_of_eq hg.symm)) hb); have n1_ := Aside0.mk (Kd.R_below (Kd.R_elderB (by (with_reducible repeat (first | apply Kd.R_alloc | apply Kd.R_drewN | apply Kd.R_drew)); exact HO_6.out) gb381 (Nat.le_of_eq hg.symm)) hb); have n2_ := Aside0.mk (below_step (by repeat (first | (with_reducible first | exact HB.out | apply below_alloc | apply pw_below_drewN | apply below_drew1) | exact HB.out)) hb); have n3_ := Aside0.mk (hbox); have n4_ := Aside0.mk ((by rw [hg]; exact (below_size (by repeat (first | (with_reducible first | exact HB.out | apply below_alloc | apply pw_below_drewN | apply below_drew1) | exact HB.out))) : w.heap.size ≤ gb381)); have n5_ := Aside0.mk ((by rw [hg]; exact (below_size (by repeat (first | (with_reducible first | exact HB.out | apply below_alloc | apply pw_below_drewN | apply below_drew1) | exact HB.out))) : w.heap.size ≤ gb381)); clear HO_0; clear HO_6; clear HB; have HO_0 := n0_; have HO_6 := n1_; have HB := n2_; have BK381 := n3_; have GW381 := n4_; have GE381 := n5_; clear n0_ n1_ n2_ n3_ n4_ n5_; clear hb hbox hg; have hcz29_0 : w28.cell? ⟨gb381, 0, none⟩ = some (.int .i64 0) := (blk_cell BK381.out 0).trans rfl; have hcz29_1 : w28.cell? ⟨gb381, 1, none⟩ = some (.int .i64 0) := (blk_cell BK381.out 1).trans rfl; have hcz29_2 : w28.cell? ⟨gb381, 2, none⟩ = some (.int .i64 0) := (blk_cell BK381.out 2).trans rfl; have hcz29_3 : w28.cell? ⟨gb381, 3, none⟩ = some (.int .i64 0) := (blk_cell BK381.out 3).trans rfl; have hcz29_4 : w28.cell? ⟨gb381, 4, none⟩ = some (.string ⟨#[]⟩) := (blk_cell BK381.out 4).trans rfl; have hcz29_5 : w28.cell? ⟨gb381, 5, none⟩ = some (.string ⟨#[]⟩) := (blk_cell BK381.out 5).trans rfl; have hcz29_6 : w28.cell? ⟨gb381, 6, none⟩ = some (.bool false) := (blk_cell BK381.out 6).trans rfl; have hcz29_7 : w28.cell? ⟨gb381, 7, none⟩ = some (.int .i64 0) := (blk_cell BK381.out 7).trans rfl; have hfz29_0 := blk_frozen BK381.out 0; have hfz29_1 := blk_frozen BK381.out 1; have hfz29_2 := blk_frozen BK381.out 2; have hfz29_3 := blk_frozen BK381.out 3; have hfz29_4 := blk_frozen BK381.out 4; have hfz29_5 := blk_frozen BK381.out 5; have hfz29_6 := blk_frozen BK381.out 6; have hfz29_7 := blk_frozen BK381.out 7) | ((with_reducible refine gate_callee (f := 15) rfl ?_); refine goesL_ (some 36) rfl rfl Tryd.func15 (by kernel_rfl) rfl #[.agg #[.int .i64 t373, .int .i64 t374, .int .i64 t375, .int .i64 t376, .string t377, .string t378, .bool t379, .int .i64 t380]] rfl (by (try simp only [List.map_toArray, List.map_cons, List.map_nil]); first | done | rfl | (simp only [List.length_drop, List.length_take]; rfl)) ?_; (with_reducible refine (script_Put.calls t373 t374 t375 t376 t377 t378 t379 t380 t382 _ A13.out).mono ?_); rintro e w30 ⟨rfl, hb⟩; refine ⟨_, rfl, ?_⟩; have n0_ := Aside0.mk (Kd.R_below (by (with_reducible repeat (first | apply Kd.R_alloc | apply Kd.R_drewN | apply Kd.R_drew)); exact (Kd.R_mono (Kd.R_far (p := ⟨gb381, 7, none⟩) (Kd.R_far (p := ⟨gb381, 6, none⟩) (Kd.R_far (p := ⟨gb381, 5, none⟩) (Kd.R_far (p := ⟨gb381, 4, none⟩) (Kd.R_far (p := ⟨gb381, 3, none⟩) (Kd.R_far (p := ⟨gb381, 2, none⟩) (Kd.R_far (p := ⟨gb381, 1, none⟩) (Kd.R_far (p := ⟨gb381, 0, none⟩) (Kd.R_mono HO_0.out (fun k_ hk => (⟨hk, hk.2⟩ : _ ∧ k_ ≠ gb381))) (fun _ hk => hk.2) (.int .i64 t373)) (fun _ hk => hk.2) (.int .i64 t374)) (fun _ hk => hk.2) (.int .i64 t375)) (fun _ hk => hk.2) (.int .i64 t376)) (fun _ hk => hk.2) (.string t377)) (fun _ hk => hk.2) (.string t378)) (fun _ hk => hk.2) (.bool t379)) (fun _ hk => hk.2) (.int .i64 t380)) (fun _ h_ => h_.1))) hb); have n1_ := Aside0.mk (Kd.R_below (by (with_reducible repeat (first | apply Kd.R_alloc | apply Kd.R_drewN | apply Kd.R_drew)); exact (Kd.R_mono (Kd.R_far (p := ⟨gb381, 7, none⟩) (Kd.R_far (p := ⟨gb381, 6, none⟩) (Kd.R_far (p := ⟨gb381, 5, none⟩) (Kd.R_far (p := ⟨gb381, 4, none⟩) (Kd.R_far (p := ⟨gb381, 3, none⟩) (Kd.R_far (p := ⟨gb381, 2, none⟩) (Kd.R_far (p := ⟨gb381, 1, none⟩) (Kd.R_far (p := ⟨gb381, 0, none⟩) (Kd.R_mono HO_6.out (fun k_ hk => (⟨hk, hk.2⟩ : _ ∧ k_ ≠ gb381))) (fun _ hk => hk.2) (.int .i64 t373)) (fun _ hk => hk.2) (.int .i64 t374)) (fun _ hk => hk.2) (.int .i64 t375)) (fun _ hk => hk.2) (.int .i64 t376)) (fun _ hk => hk.2) (.string t377)) (fun _ hk => hk.2) (.string t378)) (fun _ hk => hk.2) (.bool t379)) (fun _ hk => hk.2) (.int .i64 t380)) (fun _ h_ => h_.1))) hb); have n2_ := Aside0.mk (blk_below (g := gb381) (o := .cells #[.int .i64 t373, .int .i64 t374, .int .i64 t375, .int .i64 t376, .string t377, .string t378, .bool t379, .int .i64 t380] 23 (0, 0)) (by (with_reducible repeat (first | refine blk_drewN ?_ _ | refine blk_drew ?_ | refine blk_alloc ?_ _)); refine blk_put (cs := #[.int .i64 t373, .int .i64 t374, .int .i64 t375, .int .i64 t376, .string t377, .string t378, .bool t379, .int .i64 0]) ?_ 7 _ rfl; (with_reducible repeat (first | refine blk_drewN ?_ _ | refine blk_drew ?_ | refine blk_alloc ?_ _)); refine blk_put (cs := #[.int .i64 t373, .int .i64 t374, .int .i64 t375, .int .i64 t376, .string t377, .string t378, .bool false, .int .i64 0]) ?_ 6 _ rfl; (with_reducible repeat (first | refine blk_drewN ?_ _ | refine blk_drew ?_ | refine blk_alloc ?_ _)); refine blk_put (cs := #[.int .i64 t373, .int .i64 t374, .int .i64 t375, .int .i64 t376, .string t377, .string ⟨#[]⟩, .bool false, .int .i64 0]) ?_ 5 _ rfl; (with_reducible repeat (first | refine blk_drewN ?_ _ | refine blk_drew ?_ | refine blk_alloc ?_ _)); refine blk_put (cs := #[.int .i64 t373, .int .i64 t374, .int .i64 t375, .int .i64 t376, .string ⟨#[]⟩, .string ⟨#[]⟩, .bool false, .int .i64 0]) ?_ 4 _ rfl; (with_reducible repeat (first | refine blk_drewN ?_ _ | refine blk_drew ?_ | refine blk_alloc ?_ _)); refine blk_put (cs := #[.int .i64 t373, .int .i64 t374, .int .i64 t375, .int .i64 0, .string ⟨#[]⟩, .string ⟨#[]⟩, .bool false, .int .i64 0]) ?_ 3 _ rfl; (with_reducible repeat (first | refine blk_drewN ?_ _ | refine blk_drew ?_ | refine blk_alloc ?_ _)); refine blk_put (cs := #[.int .i64 t373, .int .i64 t374, .int .i64 0, .int .i64 0, .string ⟨#[]⟩, .string ⟨#[]⟩, .bool false, .int .i64 0]) ?_ 2 _ rfl; (with_reducible repeat (first | refine blk_drewN ?_ _ | refine blk_drew ?_ | refine blk_alloc ?_ _)); refine blk_put (cs := #[.int .i64 t373, .int .i64 0, .int .i64 0, .int .i64 0, .string ⟨#[]⟩, .string ⟨#[]⟩, .bool false, .int .i64 0]) ?_ 1 _ rfl; (with_reducible repeat (first | refine blk_drewN ?_ _ | refine blk_drew ?_ | refine blk_alloc ?_ _)); refine blk_put (cs := #[.int .i64 0, .int .i64 0, .int .i64 0, .int .i64 0, .string ⟨#[]⟩, .string ⟨#[]⟩, .bool false, .int .i64 0]) ?_ 0 _ rfl; (with_reducible repeat (first | refine blk_drewN ?_ _ | refine blk_drew ?_ | refine blk_alloc ?_ _)); exact BK381.out) hb); have n3_ := Aside0.mk (below_step (by repeat (first | (with_reducible first | exact HB.out | apply below_alloc | apply pw_below_drewN | apply below_drew1 | refine below_set ?_ GE381.out) | exact HB.out)) hb); clear HO_0; clear HO_6; clear BK381; clear HB; have HO_0 := n0_; have HO_6 := n1_; have BK381 := n2_; have HB := n3_; clear n0_ n1_ n2_ n3_; (try clear hb); (try clear hb2); (try clear hk); (try clear hi); have hcz31_0 : w30.cell? ⟨gb381, 0, none⟩ = some (.int .i64 t373) := (blk_cell BK381.out 0).trans rfl; have hcz31_1 : w30.cell? ⟨gb381, 1, none⟩ = some (.int .i64 t374) := (blk_cell BK381.out 1).trans rfl; have hcz31_2 : w30.cell? ⟨gb381, 2, none⟩ = some (.int .i64 t375) := (blk_cell BK381.out 2).trans rfl; have hcz31_3 : w30.cell? ⟨gb381, 3, none⟩ = some (.int .i64 t376) := (blk_cell BK381.out 3).trans rfl; have hcz31_4 : w30.cell? ⟨gb381, 4, none⟩ = some (.string t377) := (blk_cell BK381.out 4).trans rfl; have hcz31_5 : w30.cell? ⟨gb381, 5, none⟩ = some (.string t378) := (blk_cell BK381.out 5).trans rfl; have hcz31_6 : w30.cell? ⟨gb381, 6, none⟩ = some (.bool t379) := (blk_cell BK381.out 6).trans rfl; have hcz31_7 : w30.cell? ⟨gb381, 7, none⟩ = some (.int .i64 t380) := (blk_cell BK381.out 7).trans rfl; have hfz31_0 := blk_frozen BK381.out 0; have hfz31_1 := blk_frozen BK381.out 1; have hfz31_2 := blk_frozen BK381.out 2; have hfz31_3 := blk_frozen BK381.out 3; have hfz31_4 := blk_frozen BK381.out 4; have hfz31_5 := blk_frozen BK381.out 5; have hfz31_6 := blk_frozen BK381.out 6; have hfz31_7 := blk_frozen BK381.out 7) | ((with_reducible refine gate_callee (f := 11) rfl ?_); refine goesL_ (some 38) rfl rfl Tryd.func11 (by kernel_rfl) rfl #[.agg #[.int .i64 t373, .int .i64 t374, .int .i64 t375, .int .i64 t376, .string t377, .string t378, .bool t379, .int .i64 t380]] rfl (by (try simp only [List.map_toArray, List.map_cons, List.map_nil]); first | done | rfl | (simp only [List.length_drop, List.length_take]; rfl)) ?_; (with_reducible refine (script_Right.calls t373 t374 t375 t376 t377 t378 t379 t380 t383 _ A14.out).mono ?_); rintro e w32 ⟨rfl, hb⟩; refine ⟨_, rfl, ?_⟩; have n0_ := Aside0.mk (Kd.R_below (by (with_reducible repeat (first | apply Kd.R_alloc | apply Kd.R_drewN | apply Kd.R_drew)); exact HO_0.out) hb); have n1_ := Aside0.mk (Kd.R_below (by (with_reducible repeat (first | apply Kd.R_alloc | apply Kd.R_drewN | apply Kd.R_drew)); exact HO_6.out) hb); have n2_ := Aside0.mk (blk_below (g := gb381) (o := .cells #[.int .i64 t373, .int .i64 t374, .int .i64 t375, .int .i64 t376, .string t377, .string t378, .bool t379, .int .i64 t380] 23 (0, 0)) (by (with_reducible repeat (first | refine blk_drewN ?_ _ | refine blk_drew ?_ | refine blk_alloc ?_ _)); exact BK381.out) hb); have n3_ := Aside0.mk (below_step (by repeat (first | (with_reducible first | exact HB.out | apply below_alloc | apply pw_below_drewN | apply below_drew1 | refine below_set ?_ GE381.out) | exact HB.out)) hb); clear HO_0; clear HO_6; clear BK381; clear HB; have HO_0 := n0_; have HO_6 := n1_; have BK381 := n2_; have HB := n3_; clear n0_ n1_ n2_ n3_; (try clear hb); (try clear hb2); (try clear hk); (try clear hi); have hcz33_0 : w32.cell? ⟨gb381, 0, none⟩ = some (.int .i64 t373) := (blk_cell BK381.out 0).trans rfl; have hcz33_1 : w32.cell? ⟨gb381, 1, none⟩ = some (.int .i64 t374) := (blk_cell BK381.out 1).trans rfl; have hcz33_2 : w32.cell? ⟨gb381, 2, none⟩ = some (.int .i64 t375) := (blk_cell BK381.out 2).trans rfl; have hcz33_3 : w32.cell? ⟨gb381, 3, none⟩ = some (.int .i64 t376) := (blk_cell BK381.out 3).trans rfl; have hcz33_4 : w32.cell? ⟨gb381, 4, none⟩ = some (.string t377) := (blk_cell BK381.out 4).trans rfl; have hcz33_5 : w32.cell? ⟨gb381, 5, none⟩ = some (.string t378) := (blk_cell BK381.out 5).trans rfl; have hcz33_6 : w32.cell? ⟨gb381, 6, none⟩ = some (.bool t379) := (blk_cell BK381.out 6).trans rfl; have hcz33_7 : w32.cell? ⟨gb381, 7, none⟩ = some (.int .i64 t380) := (blk_cell BK381.out 7).trans rfl; have hfz33_0 := blk_frozen BK381.out 0; have hfz33_1 := blk_frozen BK381.out 1; have hfz33_2 := blk_frozen BK381.out 2; have hfz33_3 := blk_frozen BK381.out 3; have hfz33_4 := blk_frozen BK381.out 4; have hfz33_5 := blk_frozen BK381.out 5; have hfz33_6 := blk_frozen BK381.out 6; have hfz33_7 := blk_frozen BK381.out 7) | ((with_reducible refine gate_builtin (b := .append) (xs := #[.tmp 47, .tmp 49]) rfl ?_); (try (refine gate_guard (by rfl) ?_; dsimp only)); at_builtin; refine Kd.R_append k23 (w0 := w) w.heap.size rfl (.tmp 47) (.tmp 49) 24 23 (.agg #[(.int .i64 0), (.int .i64 0), (.int .i64 0), (.int .i64 0), (.string ⟨#[]⟩), (.string ⟨#[]⟩), (.bool false), (.int .i64 0)]) 80 rfl Tryd.underlying24 info23 rfl (by decide) (by omega) u6 x6_1 (⟨t373, t374, t375, t376, t377, t378, t379, t380⟩ : S23) [.int .i64 t373, .int .i64 t374, .int .i64 t375, .int .i64 t376, .string t377, .string t378, .bool t379, .int .i64 t380] (fun k_ => some k_ ≠ (.slice (some ad372) t366.length co26 : Value).ownBlock ∧ k_ ≠ gb381) (fun _ => False) rfl rfl ?aP (fun _ hk => hk.elim) ?aF ?aO ?aB ?aS ?aL ?_; (case aP => exact k23_mkM _ _ _ (⟨t373, t374, t375, t376, t377, t378, t379, t380⟩ : S23)); (case aB => exact (by repeat (first | (with_reducible first | exact HB.out | apply below_alloc | apply pw_below_drewN | apply below_drew1 | refine below_set ?_ GE381.out) | exact HB.out))); (case aF => exact (fun k_ hk => ⟨Kd.fresh' (Kd.R_lt (by (with_reducible repeat (first | apply Kd.R_alloc | apply Kd.R_drewN | apply Kd.R_drew)); exact HO_0.out)) k_ hk, Kd.freshB (g := gb381) (o := .cells #[.int .i64 t373, .int .i64 t374, .int .i64 t375, .int .i64 t376, .string t377, .string t378, .bool t379, .int .i64 t380] 23 (0, 0)) (by (with_reducible repeat (first | refine blk_drewN ?_ _ | refine blk_drew ?_ | refine blk_alloc ?_ _)); exact BK381.out) k_ hk⟩)); (case aO => exact (by (with_reducible repeat (first | apply Kd.R_alloc | apply Kd.R_drewN | apply Kd.R_drew)); exact HO_6.out)); (case aS => exact (below_size (by repeat (first | (with_reducible first | exact HB.out | apply below_alloc | apply pw_below_drewN | apply below_drew1 | refine below_set ?_ GE381.out) | exact HB.out)))); (case aL => have := LMc25.out; omega); intro v385 w34 ho hb hg hat; rw [← Ny384.out] at ho; have n0_ := Aside0.mk (Kd.R_after (ok := (fun k_ => k_ ≠ gb381)) (by (with_reducible repeat (first | apply Kd.R_alloc | apply Kd.R_drewN | apply Kd.R_drew)); exact Kd.R_mono HO_0.out (fun _ hk => ⟨hk.2, hk.1⟩)) hg hat); have n1_ := Aside0.mk (blk_grown (g := gb381) (o := .cells #[.int .i64 t373, .int .i64 t374, .int .i64 t375, .int .i64 t376, .string t377, .string t378, .bool t379, .int .i64 t380] 23 (0, 0)) (by (with_reducible repeat (first | refine blk_drewN ?_ _ | refine blk_drew ?_ | refine blk_alloc ?_ _)); exact BK381.out) hg (Kd.R_away HO_6.out (fun _ hk => hk.2))); have n2_ := Aside0.mk (hb); have n3_ := Aside0.mk (ho); clear HO_0; clear BK381; clear HB; clear HO_6; have HO_0 := n0_; have BK381 := n1_; have HB := n2_; have HO386 := n3_; clear n0_ n1_ n2_ n3_; clear ho hb hg hat))
           go_roundg k1
           case measure => have := HK1.out; omega
           case rel => exact ⟨(x5_1 ++ t382), (y384), (wrap64 (x7_1 + 1)), (by first | rfl | (simp; done) | (simp [*]; done)), (by first | rfl | (simp; done) | (simp [*]; done)), H', ⟨by have := HK1.out; omega⟩, ⟨by (with_reducible repeat (first | apply Kd.R_alloc | apply Kd.R_drewN | apply Kd.R_drew)); exact Kd.R_mono HO_0.out (fun _ hk => hk.2)⟩, ⟨by (with_reducible repeat (first | apply Kd.R_alloc | apply Kd.R_drewN | apply Kd.R_drew)); exact Kd.R_mono HO386.out (fun _ hk => hk.1)⟩, ⟨by repeat (first | (with_reducible first | exact HB.out | apply below_alloc | apply pw_below_drewN | apply below_drew1 | refine below_set ?_ GE381.out) | exact HB.out)⟩⟩
          ·rw [if_neg c25] at H
           exact absurd H (by simp)
         ·rw [if_neg c24] at H
          exact absurd H (by simp)
      ·rw [if_neg c11] at H
       exact absurd H (by simp)
     ·rw [if_neg c10] at H
      have c10b0 : decide (x7_1 < (t366.length : Int)) = false := decide_eq_false c10
      clear c10
      replace H := Option.bind_eq_some_iff.mp H
      obtain ⟨⟨t387, t388⟩, A350, H⟩ := H
      replace H : ((rivuletref23_Same.f k1 t387 x6_1).bind fun t391 => (if t391 = true then (rivuletlaw23_ScriptBack.j1 k1 Sji4 (t388 != (x5_1.size : Int))) else (rivuletlaw23_ScriptBack.j1 k1 Sji4 true))) = some r := H
      have A35 := Aside0.mk A350
      clear A350
      have HC36 := Aside0.mk H
      clear H
      obtain ⟨Ao37, co37, eo37⟩ := Kd.R_slice HO_0.out
      subst eo37
      go_upto_region 15 with (first | ((with_reducible refine gate_callee (f := 24) rfl ?_); refine goesL_ (some 53) rfl rfl Tryd.func24 (by kernel_rfl) rfl #[.string x5_1] rfl (by (try simp only [List.map_toArray, List.map_cons, List.map_nil]); first | done | rfl | (simp only [List.length_drop, List.length_take]; rfl)) ?_; (with_reducible refine (script_All.calls k1 x5_1 t387 t388 _ A35.out).mono ?_); rintro e w38 ⟨v389, rfl, ho0, hb⟩; refine ⟨_, rfl, ?_⟩; have n0_ := Aside0.mk (Kd.R_elder' (by (with_reducible repeat (first | apply Kd.R_alloc | apply Kd.R_drewN | apply Kd.R_drew)); exact HO_0.out) (Kd.R_base ho0) hb); have n1_ := Aside0.mk (Kd.R_elder' (by (with_reducible repeat (first | apply Kd.R_alloc | apply Kd.R_drewN | apply Kd.R_drew)); exact HO_6.out) (Kd.R_base ho0) hb); have n2_ := Aside0.mk (Kd.R_lower (Kd.R_new' (Kd.R_new' ho0 (Kd.R_lt (by (with_reducible repeat (first | apply Kd.R_alloc | apply Kd.R_drewN | apply Kd.R_drew)); exact HO_0.out))) (Kd.R_lt (by (with_reducible repeat (first | apply Kd.R_alloc | apply Kd.R_drewN | apply Kd.R_drew)); exact HO_6.out))) (below_size (by repeat (first | (with_reducible first | exact HB.out | apply below_alloc | apply pw_below_drewN | apply below_drew1) | exact HB.out)))); have n3_ := Aside0.mk (below_step (by repeat (first | (with_reducible first | exact HB.out | apply below_alloc | apply pw_below_drewN | apply below_drew1) | exact HB.out)) hb); clear HO_0; clear HO_6; clear HB; have HO_0 := n0_; have HO_6 := n1_; have HO390 := n2_; have HB := n3_; clear n0_ n1_ n2_ n3_; (try clear hb); (try clear hb2); (try clear hk); (try clear hi); (try clear ho0)))
      (try simp only [Act.put, List.setIfInBounds_toArray, List.set_cons_zero, List.set_cons_succ])
      go_cut [65] (fun v65 wc => ∃ (kq : Nat) (x65_35 : Bool), v65 = .bool x65_35 ∧ Aside0 (rivuletlaw23_ScriptBack.j1 kq Sji4 x65_35 = some r) ∧ Aside0 (kq ≤ k1) ∧ Aside0 (Below w.heap.size w wc))
      case first =>
       have H := HC36.out
       clear HC36
       replace H := Option.bind_eq_some_iff.mp H
       obtain ⟨t391, A390, H⟩ := H
       replace H : (if t391 = true then (rivuletlaw23_ScriptBack.j1 k1 Sji4 (t388 != (x5_1.size : Int))) else (rivuletlaw23_ScriptBack.j1 k1 Sji4 true)) = some r := H
       have A39 := Aside0.mk A390
       clear A390
       by_cases c40 : t391 = true
       ·subst c40
        have H1 : (rivuletlaw23_ScriptBack.j1 k1 Sji4 (t388 != (x5_1.size : Int))) = some r := by rw [if_pos rfl] at H; exact H
        clear H
        have H := H1
        clear H1
        have H' := Aside0.mk H
        clear H
        obtain ⟨Ao41, co41, eo41⟩ := Kd.R_slice HO390.out
        subst eo41
        obtain ⟨Ao42, co42, eo42⟩ := Kd.R_slice HO_6.out
        subst eo42
        go_wp2_with (first | ((with_reducible refine gate_callee (f := 26) rfl ?_); refine goesL_ (some 58) rfl rfl Tryd.func26 (by kernel_rfl) rfl #[.slice Ao41 t387.length co41, .slice Ao42 x6_1.length co42] rfl (by (try simp only [List.map_toArray, List.map_cons, List.map_nil]); first | done | rfl | (simp only [List.length_drop, List.length_take]; rfl)) ?_; (with_reducible refine (rivuletref23_Same.calls k1 _ _ t387 _ _ x6_1 true _ ?side1 ?side2 ?side3 ?side4 A39.out).mono ?_); (case side1 => repeat (first | exact (Kd.R_reads' HO390.out).2.2 | (with_reducible refine Kd.C_alloc ?_ _) | (with_reducible refine Kd.C_drewN ?_ _) | (with_reducible refine Kd.C_drew ?_))); (case side2 => exact (Kd.R_reads' HO390.out).2.1); (case side3 => repeat (first | exact (Kd.R_reads' HO_6.out).2.2 | (with_reducible refine Kd.C_alloc ?_ _) | (with_reducible refine Kd.C_drewN ?_ _) | (with_reducible refine Kd.C_drew ?_))); (case side4 => exact (Kd.R_reads' HO_6.out).2.1); rintro e w' ⟨rfl, ⟨nd, rfl⟩⟩; refine ⟨_, rfl, ?_⟩))
        go_meet
        case rel => exact ⟨_, ((t388 != (x5_1.size : Int))), (by first | rfl | (simp; done) | (simp [*]; done)), H', ⟨by have := HK1.out; first | omega | exact Nat.le_refl _⟩, ⟨by repeat (first | (with_reducible first | exact HB.out | apply below_alloc | apply pw_below_drewN | apply below_drew1) | exact HB.out)⟩⟩
       ·replace c40 := Bool.eq_false_iff.mpr c40
        subst c40
        have H1 : (rivuletlaw23_ScriptBack.j1 k1 Sji4 true) = some r := by rw [if_neg (show ¬ (false = true) by decide)] at H; exact H
        clear H
        have H := H1
        clear H1
        have H' := Aside0.mk H
        clear H
        obtain ⟨Ao43, co43, eo43⟩ := Kd.R_slice HO390.out
        subst eo43
        obtain ⟨Ao44, co44, eo44⟩ := Kd.R_slice HO_6.out
        subst eo44
        go_wp2_with (first | ((with_reducible refine gate_callee (f := 26) rfl ?_); refine goesL_ (some 58) rfl rfl Tryd.func26 (by kernel_rfl) rfl #[.slice Ao43 t387.length co43, .slice Ao44 x6_1.length co44] rfl (by (try simp only [List.map_toArray, List.map_cons, List.map_nil]); first | done | rfl | (simp only [List.length_drop, List.length_take]; rfl)) ?_; (with_reducible refine (rivuletref23_Same.calls k1 _ _ t387 _ _ x6_1 false _ ?side1 ?side2 ?side3 ?side4 A39.out).mono ?_); (case side1 => repeat (first | exact (Kd.R_reads' HO390.out).2.2 | (with_reducible refine Kd.C_alloc ?_ _) | (with_reducible refine Kd.C_drewN ?_ _) | (with_reducible refine Kd.C_drew ?_))); (case side2 => exact (Kd.R_reads' HO390.out).2.1); (case side3 => repeat (first | exact (Kd.R_reads' HO_6.out).2.2 | (with_reducible refine Kd.C_alloc ?_ _) | (with_reducible refine Kd.C_drewN ?_ _) | (with_reducible refine Kd.C_drew ?_))); (case side4 => exact (Kd.R_reads' HO_6.out).2.1); rintro e w' ⟨rfl, ⟨nd, rfl⟩⟩; refine ⟨_, rfl, ?_⟩))
        go_meet
        case rel => exact ⟨_, (true), (by first | rfl | (simp; done) | (simp [*]; done)), H', ⟨by have := HK1.out; first | omega | exact Nat.le_refl _⟩, ⟨by repeat (first | (with_reducible first | exact HB.out | apply below_alloc | apply pw_below_drewN | apply below_drew1) | exact HB.out)⟩⟩
      case rest =>
       clear HC36
       try clear c1
       try clear c2
       try clear p2
       try clear p3
       try clear q3
       try clear hx3
       try clear c4
       try clear c5
       try clear c5b0
       try clear c5b1
       try clear c6
       try clear c6b0
       try clear c6b1
       try clear p6
       try clear c10
       try clear c10b0
       try clear c11
       try clear c11b0
       try clear c13
       try clear c15
       try clear c15b0
       try clear c15b1
       try clear c15b2
       try clear c16
       try clear c16b0
       try clear c16b1
       try clear c24
       try clear c24b0
       try clear c24b1
       try clear c24b2
       try clear c25
       try clear c26
       try clear p37
       try clear q37
       try clear hx37
       try clear c40
       try clear hcz20_0
       try clear hcz20_1
       try clear hcz20_2
       try clear hcz20_3
       try clear hcz20_4
       try clear hcz20_5
       try clear hcz20_6
       try clear hcz20_7
       try clear hcz22_0
       try clear hcz22_1
       try clear hcz22_2
       try clear hcz22_3
       try clear hcz22_4
       try clear hcz22_5
       try clear hcz22_6
       try clear hcz22_7
       try clear hcz29_0
       try clear hcz29_1
       try clear hcz29_2
       try clear hcz29_3
       try clear hcz29_4
       try clear hcz29_5
       try clear hcz29_6
       try clear hcz29_7
       try clear hcz31_0
       try clear hcz31_1
       try clear hcz31_2
       try clear hcz31_3
       try clear hcz31_4
       try clear hcz31_5
       try clear hcz31_6
       try clear hcz31_7
       try clear hcz33_0
       try clear hcz33_1
       try clear hcz33_2
       try clear hcz33_3
       try clear hcz33_4
       try clear hcz33_5
       try clear hcz33_6
       try clear hcz33_7
       try clear hfz20_0
       try clear hfz20_1
       try clear hfz20_2
       try clear hfz20_3
       try clear hfz20_4
       try clear hfz20_5
       try clear hfz20_6
       try clear hfz20_7
       try clear hfz22_0
       try clear hfz22_1
       try clear hfz22_2
       try clear hfz22_3
       try clear hfz22_4
       try clear hfz22_5
       try clear hfz22_6
       try clear hfz22_7
       try clear hfz29_0
       try clear hfz29_1
       try clear hfz29_2
       try clear hfz29_3
       try clear hfz29_4
       try clear hfz29_5
       try clear hfz29_6
       try clear hfz29_7
       try clear hfz31_0
       try clear hfz31_1
       try clear hfz31_2
       try clear hfz31_3
       try clear hfz31_4
       try clear hfz31_5
       try clear hfz31_6
       try clear hfz31_7
       try clear hfz33_0
       try clear hfz33_1
       try clear hfz33_2
       try clear hfz33_3
       try clear hfz33_4
       try clear hfz33_5
       try clear hfz33_6
       try clear hfz33_7
       try clear hx372_0
       try clear hx372_1
       try clear hx372_2
       try clear hx372_3
       try clear hx372_4
       try clear hx372_5
       try clear hx372_6
       try clear hx372_7
       try clear p2
       try clear p372
       try clear q372
       obtain ⟨kq, x65_35, rfl, HA, HJ35, HB⟩ := hcut
       cases kq with
       | zero => exact absurd HA.out (by simp [rivuletlaw23_ScriptBack.j1])
       | succ kj35 =>
        have H := HA.out
        clear HA
        simp only [rivuletlaw23_ScriptBack.j1] at H
        by_cases c45 : x65_35 = true
        ·subst c45
         have H1 : (some false) = some r := by rw [if_pos rfl] at H; exact H
         clear H
         have H := H1
         clear H1
         exact absurd (Option.some.inj H) (by rw [hr_.out]; decide)
        ·replace c45 := Bool.eq_false_iff.mpr c45
         subst c45
         have H1 : ((script_All.f kj35 Sji4).bind fun bt392 => (rivuletlaw23_ScriptBack.l1 kj35 Sji4 bt392.1 bt392.2 ⟨#[]⟩ 0)) = some r := by rw [if_neg (show ¬ (false = true) by decide)] at H; exact H
         clear H
         have H := H1
         clear H1
         replace H := Option.bind_eq_some_iff.mp H
         obtain ⟨⟨t392, t393⟩, A460, H⟩ := H
         replace H : (rivuletlaw23_ScriptBack.l1 kj35 Sji4 t392 t393 ⟨#[]⟩ 0) = some r := H
         have A46 := Aside0.mk A460
         clear A460
         have H' := Aside0.mk H
         clear H
         go_wp2_with (first | ((with_reducible refine gate_callee (f := 24) rfl ?_); refine goesL_ (some 68) rfl rfl Tryd.func24 (by kernel_rfl) rfl #[.string Sji4] rfl (by (try simp only [List.map_toArray, List.map_cons, List.map_nil]); first | done | (simp only [hji4]; rfl) | rfl | (simp only [List.length_drop, List.length_take]; rfl)) ?_; (with_reducible refine (script_All.calls kj35 Sji4 t392 t393 _ A46.out).mono ?_); rintro e w47 ⟨v394, rfl, ho0, hb⟩; refine ⟨_, rfl, ?_⟩; have n0_ := Aside0.mk (Kd.R_lower ho0 (below_size (by repeat (first | (with_reducible first | exact HB.out | apply below_alloc | apply pw_below_drewN | apply below_drew1) | exact HB.out)))); have n1_ := Aside0.mk (below_step (by repeat (first | (with_reducible first | exact HB.out | apply below_alloc | apply pw_below_drewN | apply below_drew1) | exact HB.out)) hb); clear HB; have HO395 := n0_; have HB := n1_; clear n0_ n1_; (try clear hb); (try clear hb2); (try clear hk); (try clear hi); (try clear ho0)))
         go_loopg [14, 15] kj35 (fun kq v14 v15 w' => ∃ (x14_3 : ByteArray) (x15_3 : Int), v14 = .string x14_3 ∧ v15 = .int .i64 x15_3 ∧ Aside0 (rivuletlaw23_ScriptBack.l1 kq Sji4 t392 t393 x14_3 x15_3 = some r) ∧ Aside0 (kq ≤ kj35) ∧ Aside0 (Kd.R k23 23 w' w.heap.size (fun _ => True) v394 t392) ∧ Aside0 (Below w.heap.size w w'))
         case atStart => exact ⟨((⟨#[]⟩ : ByteArray)), (0), (by first | rfl | (simp; done) | (simp [*]; done)), (by first | rfl | (simp; done) | (simp [*]; done)), H', ⟨Nat.le_refl _⟩, ⟨by (with_reducible repeat (first | apply Kd.R_alloc | apply Kd.R_drewN | apply Kd.R_drew)); exact HO395.out⟩, ⟨by repeat (first | (with_reducible first | exact HB.out | apply below_alloc | apply pw_below_drewN | apply below_drew1) | exact HB.out)⟩⟩
         case round =>
          clear H'
          try clear c1
          try clear c2
          try clear p2
          try clear p3
          try clear q3
          try clear hx3
          try clear c4
          try clear c5
          try clear c5b0
          try clear c5b1
          try clear c6
          try clear c6b0
          try clear c6b1
          try clear p6
          try clear c10
          try clear c10b0
          try clear c11
          try clear c11b0
          try clear c13
          try clear c15
          try clear c15b0
          try clear c15b1
          try clear c15b2
          try clear c16
          try clear c16b0
          try clear c16b1
          try clear c24
          try clear c24b0
          try clear c24b1
          try clear c24b2
          try clear c25
          try clear c26
          try clear p37
          try clear q37
          try clear hx37
          try clear c40
          try clear c45
          try clear hcz20_0
          try clear hcz20_1
          try clear hcz20_2
          try clear hcz20_3
          try clear hcz20_4
          try clear hcz20_5
          try clear hcz20_6
          try clear hcz20_7
          try clear hcz22_0
          try clear hcz22_1
          try clear hcz22_2
          try clear hcz22_3
          try clear hcz22_4
          try clear hcz22_5
          try clear hcz22_6
          try clear hcz22_7
          try clear hcz29_0
          try clear hcz29_1
          try clear hcz29_2
          try clear hcz29_3
          try clear hcz29_4
          try clear hcz29_5
          try clear hcz29_6
          try clear hcz29_7
          try clear hcz31_0
          try clear hcz31_1
          try clear hcz31_2
          try clear hcz31_3
          try clear hcz31_4
          try clear hcz31_5
          try clear hcz31_6
          try clear hcz31_7
          try clear hcz33_0
          try clear hcz33_1
          try clear hcz33_2
          try clear hcz33_3
          try clear hcz33_4
          try clear hcz33_5
          try clear hcz33_6
          try clear hcz33_7
          try clear hfz20_0
          try clear hfz20_1
          try clear hfz20_2
          try clear hfz20_3
          try clear hfz20_4
          try clear hfz20_5
          try clear hfz20_6
          try clear hfz20_7
          try clear hfz22_0
          try clear hfz22_1
          try clear hfz22_2
          try clear hfz22_3
          try clear hfz22_4
          try clear hfz22_5
          try clear hfz22_6
          try clear hfz22_7
          try clear hfz29_0
          try clear hfz29_1
          try clear hfz29_2
          try clear hfz29_3
          try clear hfz29_4
          try clear hfz29_5
          try clear hfz29_6
          try clear hfz29_7
          try clear hfz31_0
          try clear hfz31_1
          try clear hfz31_2
          try clear hfz31_3
          try clear hfz31_4
          try clear hfz31_5
          try clear hfz31_6
          try clear hfz31_7
          try clear hfz33_0
          try clear hfz33_1
          try clear hfz33_2
          try clear hfz33_3
          try clear hfz33_4
          try clear hfz33_5
          try clear hfz33_6
          try clear hfz33_7
          try clear hx372_0
          try clear hx372_1
          try clear hx372_2
          try clear hx372_3
          try clear hx372_4
          try clear hx372_5
          try clear hx372_6
          try clear hx372_7
          try clear p2
          try clear p3
          try clear p37
          try clear p372
          try clear p6
          try clear q3
          try clear q37
          try clear q372
          obtain ⟨x14_3, x15_3, rfl, rfl, HA, HK3, HO_12, HB⟩ := hrel
          cases gk with
          | zero => exact absurd HA.out (by simp [rivuletlaw23_ScriptBack.l1])
          | succ k3 =>
           have H := HA.out
           clear HA
           simp only [rivuletlaw23_ScriptBack.l1] at H
           by_cases c48 : x15_3 < (t392.length : Int)
           ·rw [if_pos c48] at H
            have c48b0 : decide (x15_3 < (t392.length : Int)) = true := decide_eq_true c48
            clear c48
            by_cases c49 : 0 ≤ x15_3
            ·rw [if_pos c49] at H
             have c49b0 : decide (0 ≤ x15_3) = true := decide_eq_true c49
             clear c49
             replace H := Option.bind_eq_some_iff.mp H
             obtain ⟨t398, A500, H⟩ := H
             replace H : (if t398 = true then ((script_Put.f ((rd_T23 t392 x15_3).f0) ((rd_T23 t392 x15_3).f1) ((rd_T23 t392 x15_3).f2) ((rd_T23 t392 x15_3).f3) ((rd_T23 t392 x15_3).f4) ((rd_T23 t392 x15_3).f5) ((rd_T23 t392 x15_3).f6) ((rd_T23 t392 x15_3).f7)).bind fun t400 => (if x14_3.size + t400.size ≤ 9223372036854775807 then (rivuletlaw23_ScriptBack.l1 k3 Sji4 t392 t393 (x14_3 ++ t400) (wrap64 (x15_3 + 1))) else (none))) else (some false)) = some r := H
             have A50 := Aside0.mk A500
             clear A500
             by_cases c51 : t398 = true
             ·subst c51
              have H1 : ((script_Put.f ((rd_T23 t392 x15_3).f0) ((rd_T23 t392 x15_3).f1) ((rd_T23 t392 x15_3).f2) ((rd_T23 t392 x15_3).f3) ((rd_T23 t392 x15_3).f4) ((rd_T23 t392 x15_3).f5) ((rd_T23 t392 x15_3).f6) ((rd_T23 t392 x15_3).f7)).bind fun t400 => (if x14_3.size + t400.size ≤ 9223372036854775807 then (rivuletlaw23_ScriptBack.l1 k3 Sji4 t392 t393 (x14_3 ++ t400) (wrap64 (x15_3 + 1))) else (none))) = some r := by rw [if_pos rfl] at H; exact H
              clear H
              have H := H1
              clear H1
              replace H := Option.bind_eq_some_iff.mp H
              obtain ⟨t400, A520, H⟩ := H
              replace H : (if x14_3.size + t400.size ≤ 9223372036854775807 then (rivuletlaw23_ScriptBack.l1 k3 Sji4 t392 t393 (x14_3 ++ t400) (wrap64 (x15_3 + 1))) else (none)) = some r := H
              have A52 := Aside0.mk A520
              clear A520
              by_cases c53 : x14_3.size + t400.size ≤ 9223372036854775807
              ·rw [if_pos c53] at H
               have c53b0 := eq_true c53
               have c53b1 : decide (x14_3.size + t400.size ≤ 9223372036854775807) = true := decide_eq_true c53
               try have c53b2 : (9223372036854775807 < x14_3.size + t400.size) = False := eq_false (Nat.not_lt.2 c53)
               have H' := Aside0.mk H
               clear H
               obtain ⟨Ao54, co54, eo54⟩ := Kd.R_slice HO_12.out
               subst eo54
               have p397 : 0 ≤ (x15_3 : Int) := of_decide_eq_true (by first | (with_reducible assumption) | assumption)
               have q397 : x15_3 < (t392.length : Int) := of_decide_eq_true (by first | (with_reducible assumption) | assumption)
               obtain ⟨ad397, e397, hx397_0, hx397_1, hx397_2, hx397_3, hx397_4, hx397_5, hx397_6, hx397_7⟩ := at_T23 (Kd.R_reads' HO_12.out).2.2 x15_3 p397 q397
               cases e397
               replace p397 := eq_true p397
               replace q397 := eq_true q397
               go_wp2_with (first | ((with_reducible refine gate_callee (f := 11) rfl ?_); refine goesL_ (some 81) rfl rfl Tryd.func11 (by kernel_rfl) rfl #[.agg #[.int .i64 ((rd_T23 t392 x15_3).f0), .int .i64 ((rd_T23 t392 x15_3).f1), .int .i64 ((rd_T23 t392 x15_3).f2), .int .i64 ((rd_T23 t392 x15_3).f3), .string ((rd_T23 t392 x15_3).f4), .string ((rd_T23 t392 x15_3).f5), .bool ((rd_T23 t392 x15_3).f6), .int .i64 ((rd_T23 t392 x15_3).f7)]] rfl (by (try simp only [List.map_toArray, List.map_cons, List.map_nil]); first | done | rfl | (simp only [List.length_drop, List.length_take]; rfl)) ?_; (with_reducible refine (script_Right.calls ((rd_T23 t392 x15_3).f0) ((rd_T23 t392 x15_3).f1) ((rd_T23 t392 x15_3).f2) ((rd_T23 t392 x15_3).f3) ((rd_T23 t392 x15_3).f4) ((rd_T23 t392 x15_3).f5) ((rd_T23 t392 x15_3).f6) ((rd_T23 t392 x15_3).f7) true _ A50.out).mono ?_); rintro e w55 ⟨rfl, hb⟩; refine ⟨_, rfl, ?_⟩; have n0_ := Aside0.mk (Kd.R_below (by (with_reducible repeat (first | apply Kd.R_alloc | apply Kd.R_drewN | apply Kd.R_drew)); exact HO_12.out) hb); have n1_ := Aside0.mk (below_step (by repeat (first | (with_reducible first | exact HB.out | apply below_alloc | apply pw_below_drewN | apply below_drew1) | exact HB.out)) hb); clear HO_12; clear HB; have HO_12 := n0_; have HB := n1_; clear n0_ n1_; (try clear hb); (try clear hb2); (try clear hk); (try clear hi); have p399 : 0 ≤ (x15_3 : Int) := of_decide_eq_true (by first | (with_reducible assumption) | assumption); have q399 : x15_3 < (t392.length : Int) := of_decide_eq_true (by first | (with_reducible assumption) | assumption); obtain ⟨ad399, e399, hx399_0, hx399_1, hx399_2, hx399_3, hx399_4, hx399_5, hx399_6, hx399_7⟩ := at_T23 (Kd.R_reads' HO_12.out).2.2 x15_3 p399 q399; obtain rfl : ad397 = ad399 := (by injection e399); replace p399 := eq_true p399; replace q399 := eq_true q399) | ((with_reducible refine gate_callee (f := 15) rfl ?_); refine goesL_ (some 88) rfl rfl Tryd.func15 (by kernel_rfl) rfl #[.agg #[.int .i64 ((rd_T23 t392 x15_3).f0), .int .i64 ((rd_T23 t392 x15_3).f1), .int .i64 ((rd_T23 t392 x15_3).f2), .int .i64 ((rd_T23 t392 x15_3).f3), .string ((rd_T23 t392 x15_3).f4), .string ((rd_T23 t392 x15_3).f5), .bool ((rd_T23 t392 x15_3).f6), .int .i64 ((rd_T23 t392 x15_3).f7)]] rfl (by (try simp only [List.map_toArray, List.map_cons, List.map_nil]); first | done | rfl | (simp only [List.length_drop, List.length_take]; rfl)) ?_; (with_reducible refine (script_Put.calls ((rd_T23 t392 x15_3).f0) ((rd_T23 t392 x15_3).f1) ((rd_T23 t392 x15_3).f2) ((rd_T23 t392 x15_3).f3) ((rd_T23 t392 x15_3).f4) ((rd_T23 t392 x15_3).f5) ((rd_T23 t392 x15_3).f6) ((rd_T23 t392 x15_3).f7) t400 _ A52.out).mono ?_); rintro e w56 ⟨rfl, hb⟩; refine ⟨_, rfl, ?_⟩; have n0_ := Aside0.mk (Kd.R_below (by (with_reducible repeat (first | apply Kd.R_alloc | apply Kd.R_drewN | apply Kd.R_drew)); exact HO_12.out) hb); have n1_ := Aside0.mk (below_step (by repeat (first | (with_reducible first | exact HB.out | apply below_alloc | apply pw_below_drewN | apply below_drew1) | exact HB.out)) hb); clear HO_12; clear HB; have HO_12 := n0_; have HB := n1_; clear n0_ n1_; (try clear hb); (try clear hb2); (try clear hk); (try clear hi)))
               go_roundg k3
               case measure => have := HK1.out; have := HJ35.out; have := HK3.out; omega
               case rel => exact ⟨(x14_3 ++ t400), (wrap64 (x15_3 + 1)), (by first | rfl | (simp; done) | (simp [*]; done)), (by first | rfl | (simp; done) | (simp [*]; done)), H', ⟨by have := HK1.out; have := HJ35.out; have := HK3.out; omega⟩, ⟨by (with_reducible repeat (first | apply Kd.R_alloc | apply Kd.R_drewN | apply Kd.R_drew)); exact HO_12.out⟩, ⟨by repeat (first | (with_reducible first | exact HB.out | apply below_alloc | apply pw_below_drewN | apply below_drew1) | exact HB.out)⟩⟩
              ·rw [if_neg c53] at H
               exact absurd H (by simp)
             ·replace c51 := Bool.eq_false_iff.mpr c51
              subst c51
              have H1 : (some false) = some r := by rw [if_neg (show ¬ (false = true) by decide)] at H; exact H
              clear H
              have H := H1
              clear H1
              exact absurd (Option.some.inj H) (by rw [hr_.out]; decide)
            ·rw [if_neg c49] at H
             exact absurd H (by simp)
           ·rw [if_neg c48] at H
            have c48b0 : decide (x15_3 < (t392.length : Int)) = false := decide_eq_false c48
            clear c48
            by_cases c57 : t393 ≥ 0
            ·rw [if_pos c57] at H
             have c57b0 : decide (0 ≤ t393) = true := decide_eq_true c57
             clear c57
             by_cases c58 : t393 ≤ (Sji4.size : Int)
             ·rw [if_pos c58] at H
              have c58b0 : decide (t393 ≤ (Sji4.size : Int)) = true := decide_eq_true c58
              clear c58
              by_cases c59 : 0 ≤ t393
              ·rw [if_pos c59] at H
               have c59b0 := eq_true c59
               have c59b1 : decide (0 ≤ t393) = true := decide_eq_true c59
               clear c59
               have c60b0 := eq_true (of_decide_eq_true (by first | (with_reducible assumption) | assumption) : t393 ≤ (Sji4.size : Int))
               by_cases c61 : x14_3.toList = (Sji4.extract 0 (t393 : Int).toNat).toList
               ·rw [if_pos c61] at H
                have c61b0 : (x14_3.toList == (Sji4.extract 0 (t393 : Int).toNat).toList) = true := beq_iff_eq.mpr c61
                have c61b1 : (x14_3.toList != (Sji4.extract 0 (t393 : Int).toNat).toList) = false := bne_eq_false_iff_eq.mpr c61
                clear c61
                replace H := Option.bind_eq_some_iff.mp H
                obtain ⟨t396, A620, H⟩ := H
                replace H : (some t396) = some r := H
                have A62 := Aside0.mk A620
                clear A620
                obtain rfl := Option.some.inj H
                obtain ⟨Ao63, co63, eo63⟩ := Kd.R_slice HO_12.out
                subst eo63
                go_wp2_with (first | (go_at_call 21; (with_reducible refine (rivuletlaw23_fixed.calls k3  t396 _ A62.out).mono ?_); rintro e w64 ⟨rfl, hb⟩; have n0_ := Aside0.mk (Kd.R_below (by (with_reducible repeat (first | apply Kd.R_alloc | apply Kd.R_drewN | apply Kd.R_drew)); exact HO_12.out) hb); have n1_ := Aside0.mk (below_step (by repeat (first | (with_reducible first | exact HB.out | apply below_alloc | apply pw_below_drewN | apply below_drew1) | exact HB.out)) hb); clear HO_12; clear HB; have HO_12 := n0_; have HB := n1_; clear n0_ n1_; (try clear hb); (try clear hb2); (try clear hk); (try clear hi)))
                go_ret
                exact ⟨by first | rfl | (simp [errW_none, errW_some] <;> rfl) | (simp only [← hji4]; first | rfl | (simp [errW_none, errW_some] <;> rfl)) | (simp [*, errW_none, errW_some] <;> rfl), by repeat (first | (with_reducible first | exact HB.out | apply below_alloc | apply pw_below_drewN | apply below_drew1) | exact HB.out)⟩
               ·rw [if_neg c61] at H
                have c61b0 : (x14_3.toList == (Sji4.extract 0 (t393 : Int).toNat).toList) = false := beq_eq_false_iff_ne.mpr c61
                have c61b1 : (x14_3.toList != (Sji4.extract 0 (t393 : Int).toNat).toList) = true := bne_iff_ne.mpr c61
                exact absurd (Option.some.inj H) (by rw [hr_.out]; decide)
              ·rw [if_neg c59] at H
               exact absurd H (by simp)
             ·rw [if_neg c58] at H
              have c58b0 : decide (t393 ≤ (Sji4.size : Int)) = false := decide_eq_false c58
              clear c58
              exact absurd (Option.some.inj H) (by rw [hr_.out]; decide)
            ·rw [if_neg c57] at H
             have c57b0 : decide (0 ≤ t393) = false := decide_eq_false c57
             clear c57
             exact absurd (Option.some.inj H) (by rw [hr_.out]; decide)
  ·rw [if_neg c6] at H
   exact absurd H (by simp)
 ·rw [if_neg c5] at H
  exact absurd H (by simp)
end Go.Proofs.YtjjimkmbbifbjaaDoor.Pr
