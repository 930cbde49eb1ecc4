import Derived.Test.YtjjimkmbbifbjaaDoorKGets13
import Derived.Test.YtjjimkmbbifbjaaDoorKGets16
import Derived.Test.YtjjimkmbbifbjaaDoorKGets20
import Derived.Test.YtjjimkmbbifbjaaDoorKGets21
section
namespace Go.Proofs.YtjjimkmbbifbjaaDoor.Pv
open Go.RowKit Go.Proofs.YtjjimkmbbifbjaaDoorW.PrintWords Go.Proofs.YtjjimkmbbifbjaaDoorW.PrintLast Go.Proofs.YtjjimkmbbifbjaaDoorW.PrintMore
attribute [local go_sem] max2_int min2_int max_two min_two max_three min_three max_four min_four
set_option linter.unusedVariables false
set_option linter.unusedSimpArgs false
mutual
def rivuletref23_rest.j0 : Nat → ByteArray → Int → Int → Int → Int → Int → ByteArray → ByteArray → Bool → Int → Option (Int × Int × Int × Int × ByteArray × ByteArray × Bool × Int × Int × Int)
 | 0, _, _, _, _, _, _, _, _, _, _ => none
 | k + 1, x1, x2, x224000, x224001, x224002, x224003, x224004, x224005, x224006, x224007 => (rivuletref23_Has.f x224000 5).bind fun t226 => (if t226 = true then ((rivuletref01_Cut.f k x1 x2).bind fun bt227 => (if bt227.2.2 = 0 then (rivuletref23_rest.j1 k x1 bt227.2.1 x224000 x224001 x224002 x224003 bt227.1 x224005 x224006 x224007) else (some (0, 0, 0, 0, (⟨#[]⟩ : ByteArray), (⟨#[]⟩ : ByteArray), false, 0, 0, bt227.2.2)))) else (rivuletref23_rest.j1 k x1 x2 x224000 x224001 x224002 x224003 x224004 x224005 x224006 x224007))
def rivuletref23_rest.j1 : Nat → ByteArray → Int → Int → Int → Int → Int → ByteArray → ByteArray → Bool → Int → Option (Int × Int × Int × Int × ByteArray × ByteArray × Bool × Int × Int × Int)
 | 0, _, _, _, _, _, _, _, _, _, _ => none
 | k + 1, x1, x2, x224000, x224001, x224002, x224003, x224004, x224005, x224006, x224007 => (rivuletref23_Has.f x224000 6).bind fun t230 => (if t230 = true then ((rivuletref01_Cut.f k x1 x2).bind fun bt231 => (if bt231.2.2 = 0 then ((rivuletref23_Right.f k x224000 x224001 x224002 x224003 x224004 bt231.1 x224006 x224007).bind fun t234 => (if t234 = true then (some (x224000, x224001, x224002, x224003, x224004, bt231.1, x224006, x224007, bt231.2.1, 0)) else (some (0, 0, 0, 0, (⟨#[]⟩ : ByteArray), (⟨#[]⟩ : ByteArray), false, 0, 0, 4)))) else (some (0, 0, 0, 0, (⟨#[]⟩ : ByteArray), (⟨#[]⟩ : ByteArray), false, 0, 0, bt231.2.2)))) else ((rivuletref23_Right.f k x224000 x224001 x224002 x224003 x224004 x224005 x224006 x224007).bind fun t235 => (if t235 = true then (some (x224000, x224001, x224002, x224003, x224004, x224005, x224006, x224007, x2, 0)) else (some (0, 0, 0, 0, (⟨#[]⟩ : ByteArray), (⟨#[]⟩ : ByteArray), false, 0, 0, 4)))))
end
def rivuletref23_rest.f (k : Nat) (a0_0 : Int) (a0_1 : Int) (a0_2 : Int) (a0_3 : Int) (a0_4 : ByteArray) (a0_5 : ByteArray) (a0_6 : Bool) (a0_7 : Int) (a1 : ByteArray) (a2 : Int) : Option (Int × Int × Int × Int × ByteArray × ByteArray × Bool × Int × Int × Int) := (rivuletref23_Has.f a0_0 4).bind fun t225 => (if t225 = true then (if a2 = (a1.size : Int) then (some (0, 0, 0, 0, (⟨#[]⟩ : ByteArray), (⟨#[]⟩ : ByteArray), false, 0, 0, 3)) else (if 0 ≤ a2 then (if a2 < (a1.size : Int) then (if (bt a1 a2) > 1 then (some (0, 0, 0, 0, (⟨#[]⟩ : ByteArray), (⟨#[]⟩ : ByteArray), false, 0, 0, 4)) else (rivuletref23_rest.j0 k a1 (wrap64 (a2 + 1)) a0_0 a0_1 a0_2 a0_3 a0_4 a0_5 ((bt a1 a2) == 1) a0_7)) else (none)) else (none))) else (rivuletref23_rest.j0 k a1 a2 a0_0 a0_1 a0_2 a0_3 a0_4 a0_5 a0_6 a0_7))
set_option maxHeartbeats 8000000 in
set_option maxRecDepth 100000 in
theorem rivuletref23_rest.calls (k : Nat) (a0_0 : Int) (a0_1 : Int) (a0_2 : Int) (a0_3 : Int) (a0_4 : ByteArray) (a0_5 : ByteArray) (a0_6 : Bool) (a0_7 : Int) (a1 : ByteArray) (a2 : Int) (r1 : Int) (r2 : Int) (r3 : Int) (r4 : Int) (r5 : ByteArray) (r6 : ByteArray) (r7 : Bool) (r8 : Int) (r9 : Int) (r10 : Int) (w : World) (h : rivuletref23_rest.f k a0_0 a0_1 a0_2 a0_3 a0_4 a0_5 a0_6 a0_7 a1 a2 = some (r1, r2, r3, r4, r5, r6, r7, r8, r9, r10)) :
  Calls Tryd.prog 55 #[.agg #[.int .i64 a0_0, .int .i64 a0_1, .int .i64 a0_2, .int .i64 a0_3, .string a0_4, .string a0_5, .bool a0_6, .int .i64 a0_7], .string a1, .int .i64 a2] w fun e w' => e = .returned (.tuple #[.agg #[.int .i64 r1, .int .i64 r2, .int .i64 r3, .int .i64 r4, .string r5, .string r6, .bool r7, .int .i64 r8], .int .i64 r9, .int .i64 r10]) ∧ Below w.heap.size w w' := by
 have hu23 := Tryd.underlying23
 have HB := Aside0.mk (Below.refl w.heap.size w)
 have H : ((rivuletref23_Has.f a0_0 4).bind fun t225 => (if t225 = true then (if a2 = (a1.size : Int) then (some (0, 0, 0, 0, (⟨#[]⟩ : ByteArray), (⟨#[]⟩ : ByteArray), false, 0, 0, 3)) else (if 0 ≤ a2 then (if a2 < (a1.size : Int) then (if (bt a1 a2) > 1 then (some (0, 0, 0, 0, (⟨#[]⟩ : ByteArray), (⟨#[]⟩ : ByteArray), false, 0, 0, 4)) else (rivuletref23_rest.j0 k a1 (wrap64 (a2 + 1)) a0_0 a0_1 a0_2 a0_3 a0_4 a0_5 ((bt a1 a2) == 1) a0_7)) else (none)) else (none))) else (rivuletref23_rest.j0 k a1 a2 a0_0 a0_1 a0_2 a0_3 a0_4 a0_5 a0_6 a0_7))) = some (r1, r2, r3, r4, r5, r6, r7, r8, r9, r10) := h
 clear h
 replace H := Option.bind_eq_some_iff.mp H
 obtain ⟨t225, A40, H⟩ := H
 replace H : (if t225 = true then (if a2 = (a1.size : Int) then (some (0, 0, 0, 0, (⟨#[]⟩ : ByteArray), (⟨#[]⟩ : ByteArray), false, 0, 0, 3)) else (if 0 ≤ a2 then (if a2 < (a1.size : Int) then (if (bt a1 a2) > 1 then (some (0, 0, 0, 0, (⟨#[]⟩ : ByteArray), (⟨#[]⟩ : ByteArray), false, 0, 0, 4)) else (rivuletref23_rest.j0 k a1 (wrap64 (a2 + 1)) a0_0 a0_1 a0_2 a0_3 a0_4 a0_5 ((bt a1 a2) == 1) a0_7)) else (none)) else (none))) else (rivuletref23_rest.j0 k a1 a2 a0_0 a0_1 a0_2 a0_3 a0_4 a0_5 a0_6 a0_7)) = some (r1, r2, r3, r4, r5, r6, r7, r8, r9, r10) := H
 have A4 := Aside0.mk A40
 clear A40
 have HC5 := Aside0.mk H
 clear H
 go_enter Tryd.func55, Tryd.ntmps55
 go_upto_if 17 with (first | ((with_reducible refine gate_dst (N := 3) rfl ?_); refine box_event ?hg (N := 3) ?hd (cs := #[.int .i64 a0_0, .int .i64 a0_1, .int .i64 a0_2, .int .i64 a0_3, .string a0_4, .string a0_5, .bool a0_6, .int .i64 a0_7]) (t := 23) ?hr ?_; (case hd => rfl); (case hg => rfl); (case hr => first | (go_simp; done) | (go_simp; rfl)); intro gb223 hg w6 hbox hb; have n0_ := Aside0.mk (below_step (by repeat (first | (with_reducible first | exact HB.out | apply below_alloc | apply pw_below_drewN | apply below_drew1) | exact HB.out)) hb); have n1_ := Aside0.mk (hbox); have n2_ := Aside0.mk ((by rw [hg]; exact (below_size (by repeat (first | (with_reducible first | exact HB.out | apply below_alloc | apply pw_below_drewN | apply below_drew1) | exact HB.out))) : w.heap.size ≤ gb223)); have n3_ := Aside0.mk ((by rw [hg]; exact (below_size (by repeat (first | (with_reducible first | exact HB.out | apply below_alloc | apply pw_below_drewN | apply below_drew1) | exact HB.out))) : w.heap.size ≤ gb223)); clear HB; have HB := n0_; have BK223 := n1_; have GW223 := n2_; have GE223 := n3_; clear n0_ n1_ n2_ n3_; clear hb hbox hg) | ((with_reducible refine gate_dst (N := 6) rfl ?_); refine box_event ?hg (N := 6) ?hd (cs := #[.int .i64 0, .int .i64 0, .int .i64 0, .int .i64 0, .string ⟨#[]⟩, .string ⟨#[]⟩, .bool false, .int .i64 0]) (t := 23) ?hr ?_; (case hd => rfl); (case hg => rfl); (case hr => first | (go_simp; done) | (go_simp; rfl)); intro gb224 hg w7 hbox hb; have n0_ := Aside0.mk (blk_below (g := gb223) (o := .cells #[.int .i64 a0_0, .int .i64 a0_1, .int .i64 a0_2, .int .i64 a0_3, .string a0_4, .string a0_5, .bool a0_6, .int .i64 a0_7] 23 (0, 0)) (by (with_reducible repeat (first | refine blk_drewN ?_ _ | refine blk_drew ?_ | refine blk_alloc ?_ _)); exact BK223.out) hb); have n1_ := Aside0.mk (below_step (by repeat (first | (with_reducible first | exact HB.out | apply below_alloc | apply pw_below_drewN | apply below_drew1 | refine below_set ?_ GE223.out) | exact HB.out)) hb); have n2_ := Aside0.mk (hbox); have n3_ := Aside0.mk ((by rw [hg]; exact (below_size (by repeat (first | (with_reducible first | exact HB.out | apply below_alloc | apply pw_below_drewN | apply below_drew1 | refine below_set ?_ GE223.out) | exact HB.out))) : w.heap.size ≤ gb224)); have n4_ := Aside0.mk ((by rw [hg]; exact (below_size (by repeat (first | (with_reducible first | exact HB.out | apply below_alloc | apply pw_below_drewN | apply below_drew1 | refine below_set ?_ GE223.out) | exact HB.out))) : w.heap.size ≤ gb224)); have n5_ := Aside0.mk ((by rw [hg]; exact Nat.ne_of_lt (blk_lt (g := gb223) (o := .cells #[.int .i64 a0_0, .int .i64 a0_1, .int .i64 a0_2, .int .i64 a0_3, .string a0_4, .string a0_5, .bool a0_6, .int .i64 a0_7] 23 (0, 0)) (by (with_reducible repeat (first | refine blk_drewN ?_ _ | refine blk_drew ?_ | refine blk_alloc ?_ _)); exact BK223.out)) : gb223 ≠ gb224)); have n6_ := Aside0.mk ((by rw [hg]; exact Nat.ne_of_gt (blk_lt (g := gb223) (o := .cells #[.int .i64 a0_0, .int .i64 a0_1, .int .i64 a0_2, .int .i64 a0_3, .string a0_4, .string a0_5, .bool a0_6, .int .i64 a0_7] 23 (0, 0)) (by (with_reducible repeat (first | refine blk_drewN ?_ _ | refine blk_drew ?_ | refine blk_alloc ?_ _)); exact BK223.out)) : gb224 ≠ gb223)); clear BK223; clear HB; have BK223 := n0_; have HB := n1_; have BK224 := n2_; have GW224 := n3_; have GE224 := n4_; have NB223_224 := n5_; have NB224_223 := n6_; clear n0_ n1_ n2_ n3_ n4_ n5_ n6_; clear hb hbox hg; have hnb8 := NB223_224.out; have hnc8 := NB224_223.out; have hcz9_0 : w7.cell? ⟨gb223, 0, none⟩ = some (.int .i64 a0_0) := (blk_cell BK223.out 0).trans rfl; have hcz9_1 : w7.cell? ⟨gb223, 1, none⟩ = some (.int .i64 a0_1) := (blk_cell BK223.out 1).trans rfl; have hcz9_2 : w7.cell? ⟨gb223, 2, none⟩ = some (.int .i64 a0_2) := (blk_cell BK223.out 2).trans rfl; have hcz9_3 : w7.cell? ⟨gb223, 3, none⟩ = some (.int .i64 a0_3) := (blk_cell BK223.out 3).trans rfl; have hcz9_4 : w7.cell? ⟨gb223, 4, none⟩ = some (.string a0_4) := (blk_cell BK223.out 4).trans rfl; have hcz9_5 : w7.cell? ⟨gb223, 5, none⟩ = some (.string a0_5) := (blk_cell BK223.out 5).trans rfl; have hcz9_6 : w7.cell? ⟨gb223, 6, none⟩ = some (.bool a0_6) := (blk_cell BK223.out 6).trans rfl; have hcz9_7 : w7.cell? ⟨gb223, 7, none⟩ = some (.int .i64 a0_7) := (blk_cell BK223.out 7).trans rfl; have hfz9_0 := blk_frozen BK223.out 0; have hfz9_1 := blk_frozen BK223.out 1; have hfz9_2 := blk_frozen BK223.out 2; have hfz9_3 := blk_frozen BK223.out 3; have hfz9_4 := blk_frozen BK223.out 4; have hfz9_5 := blk_frozen BK223.out 5; have hfz9_6 := blk_frozen BK223.out 6; have hfz9_7 := blk_frozen BK223.out 7) | ((with_reducible refine gate_callee (f := 41) rfl ?_); refine goesL_ (some 17) rfl rfl Tryd.func41 (by kernel_rfl) rfl #[.int .i64 a0_0, .int .i64 4] rfl (by (try simp only [List.map_toArray, List.map_cons, List.map_nil]); first | done | rfl | (simp only [List.length_drop, List.length_take]; rfl)) ?_; (with_reducible refine (rivuletref23_Has.calls a0_0 4 t225 _ A4.out).mono ?_); rintro e w10 ⟨rfl, hb⟩; refine ⟨_, rfl, ?_⟩; have n0_ := Aside0.mk (blk_below (g := gb223) (o := .cells #[.int .i64 a0_0, .int .i64 a0_1, .int .i64 a0_2, .int .i64 a0_3, .string a0_4, .string a0_5, .bool a0_6, .int .i64 a0_7] 23 (0, 0)) (by (with_reducible repeat (first | refine blk_drewN ?_ _ | refine blk_drew ?_ | refine blk_alloc ?_ _)); exact BK223.out) hb); have n1_ := Aside0.mk (blk_below (g := gb224) (o := .cells #[.int .i64 0, .int .i64 0, .int .i64 0, .int .i64 0, .string ⟨#[]⟩, .string ⟨#[]⟩, .bool false, .int .i64 0] 23 (0, 0)) (by (with_reducible repeat (first | refine blk_drewN ?_ _ | refine blk_drew ?_ | refine blk_alloc ?_ _)); exact BK224.out) hb); have n2_ := Aside0.mk (below_step (by repeat (first | (with_reducible first | exact HB.out | apply below_alloc | apply pw_below_drewN | apply below_drew1 | refine below_set ?_ GE223.out | refine below_set ?_ GE224.out) | exact HB.out)) hb); clear BK223; clear BK224; clear HB; have BK223 := n0_; have BK224 := n1_; have HB := n2_; clear n0_ n1_ n2_; (try clear hb); (try clear hb2); (try clear hk); (try clear hi)))
 (try simp only [Act.put, List.setIfInBounds_toArray, List.set_cons_zero, List.set_cons_succ])
 go_cut [2] (fun v2 wc => ∃ (kq : Nat) (x2_4 : Int) (x224006_4 : Bool) (x225000_4 : Int) (x225001_4 : Int) (x225002_4 : Int) (x225003_4 : Int) (x225004_4 : ByteArray) (x225005_4 : ByteArray) (x225006_4 : Bool) (x225007_4 : Int), v2 = .int .i64 x2_4 ∧ Aside0 (rivuletref23_rest.j0 kq a1 x2_4 a0_0 a0_1 a0_2 a0_3 a0_4 a0_5 x224006_4 a0_7 = some (r1, r2, r3, r4, r5, r6, r7, r8, r9, r10)) ∧ Aside0 (kq ≤ k) ∧ Aside0 (wc.heap[gb223]? = some (.cells #[.int .i64 a0_0, .int .i64 a0_1, .int .i64 a0_2, .int .i64 a0_3, .string a0_4, .string a0_5, .bool x224006_4, .int .i64 a0_7] 23 (0, 0))) ∧ Aside0 (wc.heap[gb224]? = some (.cells #[.int .i64 x225000_4, .int .i64 x225001_4, .int .i64 x225002_4, .int .i64 x225003_4, .string x225004_4, .string x225005_4, .bool x225006_4, .int .i64 x225007_4] 23 (0, 0))) ∧ Aside0 (Below w.heap.size w wc))
 case first =>
  have H := HC5.out
  clear HC5
  by_cases c11 : t225 = true
  ·subst c11
   have H1 : (if a2 = (a1.size : Int) then (some (0, 0, 0, 0, (⟨#[]⟩ : ByteArray), (⟨#[]⟩ : ByteArray), false, 0, 0, 3)) else (if 0 ≤ a2 then (if a2 < (a1.size : Int) then (if (bt a1 a2) > 1 then (some (0, 0, 0, 0, (⟨#[]⟩ : ByteArray), (⟨#[]⟩ : ByteArray), false, 0, 0, 4)) else (rivuletref23_rest.j0 k a1 (wrap64 (a2 + 1)) a0_0 a0_1 a0_2 a0_3 a0_4 a0_5 ((bt a1 a2) == 1) a0_7)) else (none)) else (none))) = some (r1, r2, r3, r4, r5, r6, r7, r8, r9, r10) := by rw [if_pos rfl] at H; exact H
   clear H
   have H := H1
   clear H1
   by_cases c12 : a2 = (a1.size : Int)
   ·rw [if_pos c12] at H
    have c12b0 : (a2 == (a1.size : Int)) = true := beq_iff_eq.mpr c12
    have c12b1 : (a2 != (a1.size : Int)) = false := bne_eq_false_iff_eq.mpr c12
    clear c12
    (first | rw [c12b0] | (simp only [i64_w, i32_w]; rw [c12b0]) | skip)
    simp only [Option.some.injEq, Prod.mk.injEq] at H
    obtain ⟨rfl, rfl, rfl, rfl, rfl, rfl, rfl, rfl, rfl, rfl⟩ := H
    have hnb13 := NB224_223.out
    have hnc13 := NB223_224.out
    have hcz14_0 : w10.cell? ⟨gb224, 0, none⟩ = some (.int .i64 0) := (blk_cell BK224.out 0).trans rfl
    have hcz14_1 : w10.cell? ⟨gb224, 1, none⟩ = some (.int .i64 0) := (blk_cell BK224.out 1).trans rfl
    have hcz14_2 : w10.cell? ⟨gb224, 2, none⟩ = some (.int .i64 0) := (blk_cell BK224.out 2).trans rfl
    have hcz14_3 : w10.cell? ⟨gb224, 3, none⟩ = some (.int .i64 0) := (blk_cell BK224.out 3).trans rfl
    have hcz14_4 : w10.cell? ⟨gb224, 4, none⟩ = some (.string ⟨#[]⟩) := (blk_cell BK224.out 4).trans rfl
    have hcz14_5 : w10.cell? ⟨gb224, 5, none⟩ = some (.string ⟨#[]⟩) := (blk_cell BK224.out 5).trans rfl
    have hcz14_6 : w10.cell? ⟨gb224, 6, none⟩ = some (.bool false) := (blk_cell BK224.out 6).trans rfl
    have hcz14_7 : w10.cell? ⟨gb224, 7, none⟩ = some (.int .i64 0) := (blk_cell BK224.out 7).trans rfl
    have hfz14_0 := blk_frozen BK224.out 0
    have hfz14_1 := blk_frozen BK224.out 1
    have hfz14_2 := blk_frozen BK224.out 2
    have hfz14_3 := blk_frozen BK224.out 3
    have hfz14_4 := blk_frozen BK224.out 4
    have hfz14_5 := blk_frozen BK224.out 5
    have hfz14_6 := blk_frozen BK224.out 6
    have hfz14_7 := blk_frozen BK224.out 7
    go_wp2
    refine bodyPost_ret (results_ctt rfl _ _ gb224 23 #[.int .i64 0, .int .i64 0, .int .i64 0, .int .i64 0, .string ⟨#[]⟩, .string ⟨#[]⟩, .bool false, .int .i64 0] (0, 0) _ rfl (by (with_reducible repeat (first | refine blk_drewN ?_ _ | refine blk_drew ?_ | refine blk_alloc ?_ _)); refine blk_put (cs := #[.int .i64 0, .int .i64 0, .int .i64 0, .int .i64 0, .string ⟨#[]⟩, .string ⟨#[]⟩, .bool false, .int .i64 0]) ?_ 7 _ rfl; (with_reducible repeat (first | refine blk_drewN ?_ _ | refine blk_drew ?_ | refine blk_alloc ?_ _)); refine blk_put (cs := #[.int .i64 0, .int .i64 0, .int .i64 0, .int .i64 0, .string ⟨#[]⟩, .string ⟨#[]⟩, .bool false, .int .i64 0]) ?_ 6 _ rfl; (with_reducible repeat (first | refine blk_drewN ?_ _ | refine blk_drew ?_ | refine blk_alloc ?_ _)); refine blk_put (cs := #[.int .i64 0, .int .i64 0, .int .i64 0, .int .i64 0, .string ⟨#[]⟩, .string ⟨#[]⟩, .bool false, .int .i64 0]) ?_ 5 _ rfl; (with_reducible repeat (first | refine blk_drewN ?_ _ | refine blk_drew ?_ | refine blk_alloc ?_ _)); refine blk_put (cs := #[.int .i64 0, .int .i64 0, .int .i64 0, .int .i64 0, .string ⟨#[]⟩, .string ⟨#[]⟩, .bool false, .int .i64 0]) ?_ 4 _ rfl; (with_reducible repeat (first | refine blk_drewN ?_ _ | refine blk_drew ?_ | refine blk_alloc ?_ _)); refine blk_put (cs := #[.int .i64 0, .int .i64 0, .int .i64 0, .int .i64 0, .string ⟨#[]⟩, .string ⟨#[]⟩, .bool false, .int .i64 0]) ?_ 3 _ rfl; (with_reducible repeat (first | refine blk_drewN ?_ _ | refine blk_drew ?_ | refine blk_alloc ?_ _)); refine blk_put (cs := #[.int .i64 0, .int .i64 0, .int .i64 0, .int .i64 0, .string ⟨#[]⟩, .string ⟨#[]⟩, .bool false, .int .i64 0]) ?_ 2 _ rfl; (with_reducible repeat (first | refine blk_drewN ?_ _ | refine blk_drew ?_ | refine blk_alloc ?_ _)); refine blk_put (cs := #[.int .i64 0, .int .i64 0, .int .i64 0, .int .i64 0, .string ⟨#[]⟩, .string ⟨#[]⟩, .bool false, .int .i64 0]) ?_ 1 _ rfl; (with_reducible repeat (first | refine blk_drewN ?_ _ | refine blk_drew ?_ | refine blk_alloc ?_ _)); refine blk_put (cs := #[.int .i64 0, .int .i64 0, .int .i64 0, .int .i64 0, .string ⟨#[]⟩, .string ⟨#[]⟩, .bool false, .int .i64 0]) ?_ 0 _ rfl; (with_reducible repeat (first | refine blk_drewN ?_ _ | refine blk_drew ?_ | refine blk_alloc ?_ _)); exact BK224.out) Tryd.underlying23 rfl (by kernel_rfl)) rfl ?_
    exact ⟨by first | rfl | (simp [errW_none, errW_some] <;> rfl) | (simp [*, errW_none, errW_some] <;> rfl), by repeat (first | (with_reducible first | exact HB.out | apply below_alloc | apply pw_below_drewN | apply below_drew1 | refine below_set ?_ GE223.out | refine below_set ?_ GE224.out) | exact HB.out)⟩
   ·rw [if_neg c12] at H
    have c12b0 : (a2 == (a1.size : Int)) = false := beq_eq_false_iff_ne.mpr c12
    have c12b1 : (a2 != (a1.size : Int)) = true := bne_iff_ne.mpr c12
    (first | rw [c12b0] | (simp only [i64_w, i32_w]; rw [c12b0]) | skip)
    by_cases c15 : 0 ≤ a2
    ·rw [if_pos c15] at H
     have c15b0 : decide (0 ≤ a2) = true := decide_eq_true c15
     clear c15
     by_cases c16 : a2 < (a1.size : Int)
     ·rw [if_pos c16] at H
      have c16b0 : decide (a2 < (a1.size : Int)) = true := decide_eq_true c16
      clear c16
      by_cases c18 : (bt a1 a2) > 1
      ·rw [if_pos c18] at H
       have c18b0 : decide (1 < (bt a1 a2)) = true := decide_eq_true c18
       clear c18
       simp only [Option.some.injEq, Prod.mk.injEq] at H
       obtain ⟨rfl, rfl, rfl, rfl, rfl, rfl, rfl, rfl, rfl, rfl⟩ := H
       have p17 : 0 ≤ (a2 : Int) := of_decide_eq_true (by first | (with_reducible assumption) | assumption)
       have q17 : a2 < (a1.size : Int) := of_decide_eq_true (by first | (with_reducible assumption) | assumption)
       have hx17 := bt_at a1 a2
       replace p17 := eq_true p17
       replace q17 := eq_true q17
       have hnb19 := NB224_223.out
       have hnc19 := NB223_224.out
       have hcz20_0 : w10.cell? ⟨gb224, 0, none⟩ = some (.int .i64 0) := (blk_cell BK224.out 0).trans rfl
       have hcz20_1 : w10.cell? ⟨gb224, 1, none⟩ = some (.int .i64 0) := (blk_cell BK224.out 1).trans rfl
       have hcz20_2 : w10.cell? ⟨gb224, 2, none⟩ = some (.int .i64 0) := (blk_cell BK224.out 2).trans rfl
       have hcz20_3 : w10.cell? ⟨gb224, 3, none⟩ = some (.int .i64 0) := (blk_cell BK224.out 3).trans rfl
       have hcz20_4 : w10.cell? ⟨gb224, 4, none⟩ = some (.string ⟨#[]⟩) := (blk_cell BK224.out 4).trans rfl
       have hcz20_5 : w10.cell? ⟨gb224, 5, none⟩ = some (.string ⟨#[]⟩) := (blk_cell BK224.out 5).trans rfl
       have hcz20_6 : w10.cell? ⟨gb224, 6, none⟩ = some (.bool false) := (blk_cell BK224.out 6).trans rfl
       have hcz20_7 : w10.cell? ⟨gb224, 7, none⟩ = some (.int .i64 0) := (blk_cell BK224.out 7).trans rfl
       have hfz20_0 := blk_frozen BK224.out 0
       have hfz20_1 := blk_frozen BK224.out 1
       have hfz20_2 := blk_frozen BK224.out 2
       have hfz20_3 := blk_frozen BK224.out 3
       have hfz20_4 := blk_frozen BK224.out 4
       have hfz20_5 := blk_frozen BK224.out 5
       have hfz20_6 := blk_frozen BK224.out 6
       have hfz20_7 := blk_frozen BK224.out 7
       go_wp2
       refine bodyPost_ret (results_ctt rfl _ _ gb224 23 #[.int .i64 0, .int .i64 0, .int .i64 0, .int .i64 0, .string ⟨#[]⟩, .string ⟨#[]⟩, .bool false, .int .i64 0] (0, 0) _ rfl (by (with_reducible repeat (first | refine blk_drewN ?_ _ | refine blk_drew ?_ | refine blk_alloc ?_ _)); refine blk_put (cs := #[.int .i64 0, .int .i64 0, .int .i64 0, .int .i64 0, .string ⟨#[]⟩, .string ⟨#[]⟩, .bool false, .int .i64 0]) ?_ 7 _ rfl; (with_reducible repeat (first | refine blk_drewN ?_ _ | refine blk_drew ?_ | refine blk_alloc ?_ _)); refine blk_put (cs := #[.int .i64 0, .int .i64 0, .int .i64 0, .int .i64 0, .string ⟨#[]⟩, .string ⟨#[]⟩, .bool false, .int .i64 0]) ?_ 6 _ rfl; (with_reducible repeat (first | refine blk_drewN ?_ _ | refine blk_drew ?_ | refine blk_alloc ?_ _)); refine blk_put (cs := #[.int .i64 0, .int .i64 0, .int .i64 0, .int .i64 0, .string ⟨#[]⟩, .string ⟨#[]⟩, .bool false, .int .i64 0]) ?_ 5 _ rfl; (with_reducible repeat (first | refine blk_drewN ?_ _ | refine blk_drew ?_ | refine blk_alloc ?_ _)); refine blk_put (cs := #[.int .i64 0, .int .i64 0, .int .i64 0, .int .i64 0, .string ⟨#[]⟩, .string ⟨#[]⟩, .bool false, .int .i64 0]) ?_ 4 _ rfl; (with_reducible repeat (first | refine blk_drewN ?_ _ | refine blk_drew ?_ | refine blk_alloc ?_ _)); refine blk_put (cs := #[.int .i64 0, .int .i64 0, .int .i64 0, .int .i64 0, .string ⟨#[]⟩, .string ⟨#[]⟩, .bool false, .int .i64 0]) ?_ 3 _ rfl; (with_reducible repeat (first | refine blk_drewN ?_ _ | refine blk_drew ?_ | refine blk_alloc ?_ _)); refine blk_put (cs := #[.int .i64 0, .int .i64 0, .int .i64 0, .int .i64 0, .string ⟨#[]⟩, .string ⟨#[]⟩, .bool false, .int .i64 0]) ?_ 2 _ rfl; (with_reducible repeat (first | refine blk_drewN ?_ _ | refine blk_drew ?_ | refine blk_alloc ?_ _)); refine blk_put (cs := #[.int .i64 0, .int .i64 0, .int .i64 0, .int .i64 0, .string ⟨#[]⟩, .string ⟨#[]⟩, .bool false, .int .i64 0]) ?_ 1 _ rfl; (with_reducible repeat (first | refine blk_drewN ?_ _ | refine blk_drew ?_ | refine blk_alloc ?_ _)); refine blk_put (cs := #[.int .i64 0, .int .i64 0, .int .i64 0, .int .i64 0, .string ⟨#[]⟩, .string ⟨#[]⟩, .bool false, .int .i64 0]) ?_ 0 _ rfl; (with_reducible repeat (first | refine blk_drewN ?_ _ | refine blk_drew ?_ | refine blk_alloc ?_ _)); exact BK224.out) Tryd.underlying23 rfl (by kernel_rfl)) rfl ?_
       exact ⟨by first | rfl | (simp [errW_none, errW_some] <;> rfl) | (simp [*, errW_none, errW_some] <;> rfl), by repeat (first | (with_reducible first | exact HB.out | apply below_alloc | apply pw_below_drewN | apply below_drew1 | refine below_set ?_ GE223.out | refine below_set ?_ GE224.out) | exact HB.out)⟩
      ·rw [if_neg c18] at H
       have c18b0 : decide (1 < (bt a1 a2)) = false := decide_eq_false c18
       clear c18
       have H' := Aside0.mk H
       clear H
       have p17 : 0 ≤ (a2 : Int) := of_decide_eq_true (by first | (with_reducible assumption) | assumption)
       have q17 : a2 < (a1.size : Int) := of_decide_eq_true (by first | (with_reducible assumption) | assumption)
       have hx17 := bt_at a1 a2
       replace p17 := eq_true p17
       replace q17 := eq_true q17
       have p21 : 0 ≤ (a2 : Int) := of_decide_eq_true (by first | (with_reducible assumption) | assumption)
       have q21 : a2 < (a1.size : Int) := of_decide_eq_true (by first | (with_reducible assumption) | assumption)
       have hx21 := bt_at a1 a2
       replace p21 := eq_true p21
       replace q21 := eq_true q21
       have hnb22 := NB223_224.out
       have hnc22 := NB224_223.out
       have hcz23_0 : w10.cell? ⟨gb223, 0, none⟩ = some (.int .i64 a0_0) := (blk_cell BK223.out 0).trans rfl
       have hcz23_1 : w10.cell? ⟨gb223, 1, none⟩ = some (.int .i64 a0_1) := (blk_cell BK223.out 1).trans rfl
       have hcz23_2 : w10.cell? ⟨gb223, 2, none⟩ = some (.int .i64 a0_2) := (blk_cell BK223.out 2).trans rfl
       have hcz23_3 : w10.cell? ⟨gb223, 3, none⟩ = some (.int .i64 a0_3) := (blk_cell BK223.out 3).trans rfl
       have hcz23_4 : w10.cell? ⟨gb223, 4, none⟩ = some (.string a0_4) := (blk_cell BK223.out 4).trans rfl
       have hcz23_5 : w10.cell? ⟨gb223, 5, none⟩ = some (.string a0_5) := (blk_cell BK223.out 5).trans rfl
       have hcz23_6 : w10.cell? ⟨gb223, 6, none⟩ = some (.bool a0_6) := (blk_cell BK223.out 6).trans rfl
       have hcz23_7 : w10.cell? ⟨gb223, 7, none⟩ = some (.int .i64 a0_7) := (blk_cell BK223.out 7).trans rfl
       have hfz23_0 := blk_frozen BK223.out 0
       have hfz23_1 := blk_frozen BK223.out 1
       have hfz23_2 := blk_frozen BK223.out 2
       have hfz23_3 := blk_frozen BK223.out 3
       have hfz23_4 := blk_frozen BK223.out 4
       have hfz23_5 := blk_frozen BK223.out 5
       have hfz23_6 := blk_frozen BK223.out 6
       have hfz23_7 := blk_frozen BK223.out 7
       go_wp2
       go_meet
       case rel => exact ⟨_, (wrap64 (a2 + 1)), (((bt a1 a2) == 1)), (0), (0), (0), (0), ((⟨#[]⟩ : ByteArray)), ((⟨#[]⟩ : ByteArray)), (false), (0), (by first | rfl | (simp; done) | (simp [*]; done)), H', ⟨by first | omega | exact Nat.le_refl _⟩, ⟨by (with_reducible repeat (first | refine blk_drewN ?_ _ | refine blk_drew ?_ | refine blk_alloc ?_ _)); refine blk_put (cs := #[.int .i64 a0_0, .int .i64 a0_1, .int .i64 a0_2, .int .i64 a0_3, .string a0_4, .string a0_5, .bool a0_6, .int .i64 a0_7]) ?_ 6 _ rfl; (with_reducible repeat (first | refine blk_drewN ?_ _ | refine blk_drew ?_ | refine blk_alloc ?_ _)); exact BK223.out⟩, ⟨by (with_reducible repeat (first | refine blk_drewN ?_ _ | refine blk_drew ?_ | refine blk_alloc ?_ _)); refine blk_far ?_ NB224_223.out _; (with_reducible repeat (first | refine blk_drewN ?_ _ | refine blk_drew ?_ | refine blk_alloc ?_ _)); exact BK224.out⟩, ⟨by repeat (first | (with_reducible first | exact HB.out | apply below_alloc | apply pw_below_drewN | apply below_drew1 | refine below_set ?_ GE223.out | refine below_set ?_ GE224.out) | exact HB.out)⟩⟩
     ·rw [if_neg c16] at H
      exact absurd H (by simp)
    ·rw [if_neg c15] at H
     exact absurd H (by simp)
  ·replace c11 := Bool.eq_false_iff.mpr c11
   subst c11
   have H1 : (rivuletref23_rest.j0 k a1 a2 a0_0 a0_1 a0_2 a0_3 a0_4 a0_5 a0_6 a0_7) = some (r1, r2, r3, r4, r5, r6, r7, r8, r9, r10) := by rw [if_neg (show ¬ (false = true) by decide)] at H; exact H
   clear H
   have H := H1
   clear H1
   have H' := Aside0.mk H
   clear H
   go_wp2
   go_meet
   case rel => exact ⟨_, (a2), (a0_6), (0), (0), (0), (0), ((⟨#[]⟩ : ByteArray)), ((⟨#[]⟩ : ByteArray)), (false), (0), (by first | rfl | (simp; done) | (simp [*]; done)), H', ⟨by first | omega | exact Nat.le_refl _⟩, ⟨by (with_reducible repeat (first | refine blk_drewN ?_ _ | refine blk_drew ?_ | refine blk_alloc ?_ _)); exact BK223.out⟩, ⟨by (with_reducible repeat (first | refine blk_drewN ?_ _ | refine blk_drew ?_ | refine blk_alloc ?_ _)); exact BK224.out⟩, ⟨by repeat (first | (with_reducible first | exact HB.out | apply below_alloc | apply pw_below_drewN | apply below_drew1 | refine below_set ?_ GE223.out | refine below_set ?_ GE224.out) | exact HB.out)⟩⟩
 case rest =>
  clear HC5
  try clear c1
  try clear p1
  try clear q1
  try clear hx1
  try clear c2
  try clear p2
  try clear q2
  try clear hx2
  try clear c4
  try clear c5
  try clear p6
  try clear c8
  try clear c11
  try clear c12
  try clear c12b0
  try clear c12b1
  try clear c13
  try clear c15
  try clear c15b0
  try clear c16
  try clear c16b0
  try clear p17
  try clear q17
  try clear hx17
  try clear c18
  try clear c18b0
  try clear c19
  try clear p21
  try clear q21
  try clear hx21
  try clear c22
  try clear hcz14_0
  try clear hcz14_1
  try clear hcz14_2
  try clear hcz14_3
  try clear hcz14_4
  try clear hcz14_5
  try clear hcz14_6
  try clear hcz14_7
  try clear hcz20_0
  try clear hcz20_1
  try clear hcz20_2
  try clear hcz20_3
  try clear hcz20_4
  try clear hcz20_5
  try clear hcz20_6
  try clear hcz20_7
  try clear hcz23_0
  try clear hcz23_1
  try clear hcz23_2
  try clear hcz23_3
  try clear hcz23_4
  try clear hcz23_5
  try clear hcz23_6
  try clear hcz23_7
  try clear hcz9_0
  try clear hcz9_1
  try clear hcz9_2
  try clear hcz9_3
  try clear hcz9_4
  try clear hcz9_5
  try clear hcz9_6
  try clear hcz9_7
  try clear hfz14_0
  try clear hfz14_1
  try clear hfz14_2
  try clear hfz14_3
  try clear hfz14_4
  try clear hfz14_5
  try clear hfz14_6
  try clear hfz14_7
  try clear hfz20_0
  try clear hfz20_1
  try clear hfz20_2
  try clear hfz20_3
  try clear hfz20_4
  try clear hfz20_5
  try clear hfz20_6
  try clear hfz20_7
  try clear hfz23_0
  try clear hfz23_1
  try clear hfz23_2
  try clear hfz23_3
  try clear hfz23_4
  try clear hfz23_5
  try clear hfz23_6
  try clear hfz23_7
  try clear hfz9_0
  try clear hfz9_1
  try clear hfz9_2
  try clear hfz9_3
  try clear hfz9_4
  try clear hfz9_5
  try clear hfz9_6
  try clear hfz9_7
  try clear p17
  try clear p21
  try clear q17
  try clear q21
  obtain ⟨kq, x2_4, x224006_4, x225000_4, x225001_4, x225002_4, x225003_4, x225004_4, x225005_4, x225006_4, x225007_4, rfl, HA, HJ4, BK223, BK224, HB⟩ := hcut
  cases kq with
  | zero => exact absurd HA.out (by simp [rivuletref23_rest.j0])
  | succ kj4 =>
   have H := HA.out
   clear HA
   simp only [rivuletref23_rest.j0] at H
   replace H := Option.bind_eq_some_iff.mp H
   obtain ⟨t226, A240, H⟩ := H
   replace H : (if t226 = true then ((rivuletref01_Cut.f kj4 a1 x2_4).bind fun bt227 => (if bt227.2.2 = 0 then (rivuletref23_rest.j1 kj4 a1 bt227.2.1 a0_0 a0_1 a0_2 a0_3 bt227.1 a0_5 x224006_4 a0_7) else (some (0, 0, 0, 0, (⟨#[]⟩ : ByteArray), (⟨#[]⟩ : ByteArray), false, 0, 0, bt227.2.2)))) else (rivuletref23_rest.j1 kj4 a1 x2_4 a0_0 a0_1 a0_2 a0_3 a0_4 a0_5 x224006_4 a0_7)) = some (r1, r2, r3, r4, r5, r6, r7, r8, r9, r10) := H
   have A24 := Aside0.mk A240
   clear A240
   have HC25 := Aside0.mk H
   clear H
   have hnb26 := NB223_224.out
   have hnc26 := NB224_223.out
   have hcz27_0 : wc.cell? ⟨gb223, 0, none⟩ = some (.int .i64 a0_0) := (blk_cell BK223.out 0).trans rfl
   have hcz27_1 : wc.cell? ⟨gb223, 1, none⟩ = some (.int .i64 a0_1) := (blk_cell BK223.out 1).trans rfl
   have hcz27_2 : wc.cell? ⟨gb223, 2, none⟩ = some (.int .i64 a0_2) := (blk_cell BK223.out 2).trans rfl
   have hcz27_3 : wc.cell? ⟨gb223, 3, none⟩ = some (.int .i64 a0_3) := (blk_cell BK223.out 3).trans rfl
   have hcz27_4 : wc.cell? ⟨gb223, 4, none⟩ = some (.string a0_4) := (blk_cell BK223.out 4).trans rfl
   have hcz27_5 : wc.cell? ⟨gb223, 5, none⟩ = some (.string a0_5) := (blk_cell BK223.out 5).trans rfl
   have hcz27_6 : wc.cell? ⟨gb223, 6, none⟩ = some (.bool x224006_4) := (blk_cell BK223.out 6).trans rfl
   have hcz27_7 : wc.cell? ⟨gb223, 7, none⟩ = some (.int .i64 a0_7) := (blk_cell BK223.out 7).trans rfl
   have hfz27_0 := blk_frozen BK223.out 0
   have hfz27_1 := blk_frozen BK223.out 1
   have hfz27_2 := blk_frozen BK223.out 2
   have hfz27_3 := blk_frozen BK223.out 3
   have hfz27_4 := blk_frozen BK223.out 4
   have hfz27_5 := blk_frozen BK223.out 5
   have hfz27_6 := blk_frozen BK223.out 6
   have hfz27_7 := blk_frozen BK223.out 7
   go_upto_if 37 with (first | ((with_reducible refine gate_callee (f := 41) rfl ?_); refine goesL_ (some 37) rfl rfl Tryd.func41 (by kernel_rfl) rfl #[.int .i64 a0_0, .int .i64 5] rfl (by (try simp only [List.map_toArray, List.map_cons, List.map_nil]); first | done | rfl | (simp only [List.length_drop, List.length_take]; rfl)) ?_; (with_reducible refine (rivuletref23_Has.calls a0_0 5 t226 _ A24.out).mono ?_); rintro e w28 ⟨rfl, hb⟩; refine ⟨_, rfl, ?_⟩; have n0_ := Aside0.mk (blk_below (g := gb223) (o := .cells #[.int .i64 a0_0, .int .i64 a0_1, .int .i64 a0_2, .int .i64 a0_3, .string a0_4, .string a0_5, .bool x224006_4, .int .i64 a0_7] 23 (0, 0)) (by (with_reducible repeat (first | refine blk_drewN ?_ _ | refine blk_drew ?_ | refine blk_alloc ?_ _)); exact BK223.out) hb); have n1_ := Aside0.mk (blk_below (g := gb224) (o := .cells #[.int .i64 x225000_4, .int .i64 x225001_4, .int .i64 x225002_4, .int .i64 x225003_4, .string x225004_4, .string x225005_4, .bool x225006_4, .int .i64 x225007_4] 23 (0, 0)) (by (with_reducible repeat (first | refine blk_drewN ?_ _ | refine blk_drew ?_ | refine blk_alloc ?_ _)); exact BK224.out) hb); have n2_ := Aside0.mk (below_step (by repeat (first | (with_reducible first | exact HB.out | apply below_alloc | apply pw_below_drewN | apply below_drew1 | refine below_set ?_ GE223.out | refine below_set ?_ GE224.out) | exact HB.out)) hb); clear BK223; clear BK224; clear HB; have BK223 := n0_; have BK224 := n1_; have HB := n2_; clear n0_ n1_ n2_; (try clear hb); (try clear hb2); (try clear hk); (try clear hi)))
   (try simp only [Act.put, List.setIfInBounds_toArray, List.set_cons_zero, List.set_cons_succ])
   go_cut [2] (fun v2 wc => ∃ (kq : Nat) (x2_24 : Int) (x224004_24 : ByteArray) (x225000_24 : Int) (x225001_24 : Int) (x225002_24 : Int) (x225003_24 : Int) (x225004_24 : ByteArray) (x225005_24 : ByteArray) (x225006_24 : Bool) (x225007_24 : Int), v2 = .int .i64 x2_24 ∧ Aside0 (rivuletref23_rest.j1 kq a1 x2_24 a0_0 a0_1 a0_2 a0_3 x224004_24 a0_5 x224006_4 a0_7 = some (r1, r2, r3, r4, r5, r6, r7, r8, r9, r10)) ∧ Aside0 (kq ≤ kj4) ∧ Aside0 (wc.heap[gb223]? = some (.cells #[.int .i64 a0_0, .int .i64 a0_1, .int .i64 a0_2, .int .i64 a0_3, .string x224004_24, .string a0_5, .bool x224006_4, .int .i64 a0_7] 23 (0, 0))) ∧ Aside0 (wc.heap[gb224]? = some (.cells #[.int .i64 x225000_24, .int .i64 x225001_24, .int .i64 x225002_24, .int .i64 x225003_24, .string x225004_24, .string x225005_24, .bool x225006_24, .int .i64 x225007_24] 23 (0, 0))) ∧ Aside0 (Below w.heap.size w wc))
   case first =>
    have H := HC25.out
    clear HC25
    by_cases c29 : t226 = true
    ·subst c29
     have H1 : ((rivuletref01_Cut.f kj4 a1 x2_4).bind fun bt227 => (if bt227.2.2 = 0 then (rivuletref23_rest.j1 kj4 a1 bt227.2.1 a0_0 a0_1 a0_2 a0_3 bt227.1 a0_5 x224006_4 a0_7) else (some (0, 0, 0, 0, (⟨#[]⟩ : ByteArray), (⟨#[]⟩ : ByteArray), false, 0, 0, bt227.2.2)))) = some (r1, r2, r3, r4, r5, r6, r7, r8, r9, r10) := by rw [if_pos rfl] at H; exact H
     clear H
     have H := H1
     clear H1
     replace H := Option.bind_eq_some_iff.mp H
     obtain ⟨⟨t227, t228, t229⟩, A300, H⟩ := H
     replace H : (if t229 = 0 then (rivuletref23_rest.j1 kj4 a1 t228 a0_0 a0_1 a0_2 a0_3 t227 a0_5 x224006_4 a0_7) else (some (0, 0, 0, 0, (⟨#[]⟩ : ByteArray), (⟨#[]⟩ : ByteArray), false, 0, 0, t229))) = some (r1, r2, r3, r4, r5, r6, r7, r8, r9, r10) := H
     have A30 := Aside0.mk A300
     clear A300
     by_cases c31 : t229 = 0
     ·rw [if_pos c31] at H
      have c31b0 : (t229 == 0) = true := beq_iff_eq.mpr c31
      have c31b1 : (t229 != 0) = false := bne_eq_false_iff_eq.mpr c31
      clear c31
      (first | rw [c31b0] | (simp only [i64_w, i32_w]; rw [c31b0]) | skip)
      have H' := Aside0.mk H
      clear H
      go_wp2_with (first | ((with_reducible refine gate_callee (f := 68) rfl ?_); refine goesL_ (some 41) rfl rfl Tryd.func68 (by kernel_rfl) rfl #[.string a1, .int .i64 x2_4] rfl (by (try simp only [List.map_toArray, List.map_cons, List.map_nil]); first | done | rfl | (simp only [List.length_drop, List.length_take]; rfl)) ?_; (with_reducible refine (rivuletref01_Cut.calls kj4 a1 x2_4 t227 t228 t229 _ A30.out).mono ?_); rintro e w32 ⟨rfl, hb⟩; refine ⟨_, rfl, ?_⟩; have n0_ := Aside0.mk (blk_below (g := gb223) (o := .cells #[.int .i64 a0_0, .int .i64 a0_1, .int .i64 a0_2, .int .i64 a0_3, .string a0_4, .string a0_5, .bool x224006_4, .int .i64 a0_7] 23 (0, 0)) (by (with_reducible repeat (first | refine blk_drewN ?_ _ | refine blk_drew ?_ | refine blk_alloc ?_ _)); exact BK223.out) hb); have n1_ := Aside0.mk (blk_below (g := gb224) (o := .cells #[.int .i64 x225000_4, .int .i64 x225001_4, .int .i64 x225002_4, .int .i64 x225003_4, .string x225004_4, .string x225005_4, .bool x225006_4, .int .i64 x225007_4] 23 (0, 0)) (by (with_reducible repeat (first | refine blk_drewN ?_ _ | refine blk_drew ?_ | refine blk_alloc ?_ _)); exact BK224.out) hb); have n2_ := Aside0.mk (below_step (by repeat (first | (with_reducible first | exact HB.out | apply below_alloc | apply pw_below_drewN | apply below_drew1 | refine below_set ?_ GE223.out | refine below_set ?_ GE224.out) | exact HB.out)) hb); clear BK223; clear BK224; clear HB; have BK223 := n0_; have BK224 := n1_; have HB := n2_; clear n0_ n1_ n2_; (try clear hb); (try clear hb2); (try clear hk); (try clear hi); have hnb33 := NB223_224.out; have hnc33 := NB224_223.out; have hcz34_0 : w32.cell? ⟨gb223, 0, none⟩ = some (.int .i64 a0_0) := (blk_cell BK223.out 0).trans rfl; have hcz34_1 : w32.cell? ⟨gb223, 1, none⟩ = some (.int .i64 a0_1) := (blk_cell BK223.out 1).trans rfl; have hcz34_2 : w32.cell? ⟨gb223, 2, none⟩ = some (.int .i64 a0_2) := (blk_cell BK223.out 2).trans rfl; have hcz34_3 : w32.cell? ⟨gb223, 3, none⟩ = some (.int .i64 a0_3) := (blk_cell BK223.out 3).trans rfl; have hcz34_4 : w32.cell? ⟨gb223, 4, none⟩ = some (.string a0_4) := (blk_cell BK223.out 4).trans rfl; have hcz34_5 : w32.cell? ⟨gb223, 5, none⟩ = some (.string a0_5) := (blk_cell BK223.out 5).trans rfl; have hcz34_6 : w32.cell? ⟨gb223, 6, none⟩ = some (.bool x224006_4) := (blk_cell BK223.out 6).trans rfl; have hcz34_7 : w32.cell? ⟨gb223, 7, none⟩ = some (.int .i64 a0_7) := (blk_cell BK223.out 7).trans rfl; have hfz34_0 := blk_frozen BK223.out 0; have hfz34_1 := blk_frozen BK223.out 1; have hfz34_2 := blk_frozen BK223.out 2; have hfz34_3 := blk_frozen BK223.out 3; have hfz34_4 := blk_frozen BK223.out 4; have hfz34_5 := blk_frozen BK223.out 5; have hfz34_6 := blk_frozen BK223.out 6; have hfz34_7 := blk_frozen BK223.out 7))
      go_meet
      case rel => exact ⟨_, (t228), (t227), (x225000_4), (x225001_4), (x225002_4), (x225003_4), (x225004_4), (x225005_4), (x225006_4), (x225007_4), (by first | rfl | (simp; done) | (simp [*]; done)), H', ⟨by have := HJ4.out; first | omega | exact Nat.le_refl _⟩, ⟨by (with_reducible repeat (first | refine blk_drewN ?_ _ | refine blk_drew ?_ | refine blk_alloc ?_ _)); refine blk_put (cs := #[.int .i64 a0_0, .int .i64 a0_1, .int .i64 a0_2, .int .i64 a0_3, .string a0_4, .string a0_5, .bool x224006_4, .int .i64 a0_7]) ?_ 4 _ rfl; (with_reducible repeat (first | refine blk_drewN ?_ _ | refine blk_drew ?_ | refine blk_alloc ?_ _)); exact BK223.out⟩, ⟨by (with_reducible repeat (first | refine blk_drewN ?_ _ | refine blk_drew ?_ | refine blk_alloc ?_ _)); refine blk_far ?_ NB224_223.out _; (with_reducible repeat (first | refine blk_drewN ?_ _ | refine blk_drew ?_ | refine blk_alloc ?_ _)); exact BK224.out⟩, ⟨by repeat (first | (with_reducible first | exact HB.out | apply below_alloc | apply pw_below_drewN | apply below_drew1 | refine below_set ?_ GE223.out | refine below_set ?_ GE224.out) | exact HB.out)⟩⟩
     ·rw [if_neg c31] at H
      have c31b0 : (t229 == 0) = false := beq_eq_false_iff_ne.mpr c31
      have c31b1 : (t229 != 0) = true := bne_iff_ne.mpr c31
      (first | rw [c31b0] | (simp only [i64_w, i32_w]; rw [c31b0]) | skip)
      simp only [Option.some.injEq, Prod.mk.injEq] at H
      obtain ⟨rfl, rfl, rfl, rfl, rfl, rfl, rfl, rfl, rfl, rfl⟩ := H
      go_wp2_with (first | ((with_reducible refine gate_callee (f := 68) rfl ?_); refine goesL_ (some 41) rfl rfl Tryd.func68 (by kernel_rfl) rfl #[.string a1, .int .i64 x2_4] rfl (by (try simp only [List.map_toArray, List.map_cons, List.map_nil]); first | done | rfl | (simp only [List.length_drop, List.length_take]; rfl)) ?_; (with_reducible refine (rivuletref01_Cut.calls kj4 a1 x2_4 t227 t228 t229 _ A30.out).mono ?_); rintro e w35 ⟨rfl, hb⟩; refine ⟨_, rfl, ?_⟩; have n0_ := Aside0.mk (blk_below (g := gb223) (o := .cells #[.int .i64 a0_0, .int .i64 a0_1, .int .i64 a0_2, .int .i64 a0_3, .string a0_4, .string a0_5, .bool x224006_4, .int .i64 a0_7] 23 (0, 0)) (by (with_reducible repeat (first | refine blk_drewN ?_ _ | refine blk_drew ?_ | refine blk_alloc ?_ _)); exact BK223.out) hb); have n1_ := Aside0.mk (blk_below (g := gb224) (o := .cells #[.int .i64 x225000_4, .int .i64 x225001_4, .int .i64 x225002_4, .int .i64 x225003_4, .string x225004_4, .string x225005_4, .bool x225006_4, .int .i64 x225007_4] 23 (0, 0)) (by (with_reducible repeat (first | refine blk_drewN ?_ _ | refine blk_drew ?_ | refine blk_alloc ?_ _)); exact BK224.out) hb); have n2_ := Aside0.mk (below_step (by repeat (first | (with_reducible first | exact HB.out | apply below_alloc | apply pw_below_drewN | apply below_drew1 | refine below_set ?_ GE223.out | refine below_set ?_ GE224.out) | exact HB.out)) hb); clear BK223; clear BK224; clear HB; have BK223 := n0_; have BK224 := n1_; have HB := n2_; clear n0_ n1_ n2_; (try clear hb); (try clear hb2); (try clear hk); (try clear hi); have hnb36 := NB224_223.out; have hnc36 := NB223_224.out; have hcz37_0 : w35.cell? ⟨gb224, 0, none⟩ = some (.int .i64 x225000_4) := (blk_cell BK224.out 0).trans rfl; have hcz37_1 : w35.cell? ⟨gb224, 1, none⟩ = some (.int .i64 x225001_4) := (blk_cell BK224.out 1).trans rfl; have hcz37_2 : w35.cell? ⟨gb224, 2, none⟩ = some (.int .i64 x225002_4) := (blk_cell BK224.out 2).trans rfl; have hcz37_3 : w35.cell? ⟨gb224, 3, none⟩ = some (.int .i64 x225003_4) := (blk_cell BK224.out 3).trans rfl; have hcz37_4 : w35.cell? ⟨gb224, 4, none⟩ = some (.string x225004_4) := (blk_cell BK224.out 4).trans rfl; have hcz37_5 : w35.cell? ⟨gb224, 5, none⟩ = some (.string x225005_4) := (blk_cell BK224.out 5).trans rfl; have hcz37_6 : w35.cell? ⟨gb224, 6, none⟩ = some (.bool x225006_4) := (blk_cell BK224.out 6).trans rfl; have hcz37_7 : w35.cell? ⟨gb224, 7, none⟩ = some (.int .i64 x225007_4) := (blk_cell BK224.out 7).trans rfl; have hfz37_0 := blk_frozen BK224.out 0; have hfz37_1 := blk_frozen BK224.out 1; have hfz37_2 := blk_frozen BK224.out 2; have hfz37_3 := blk_frozen BK224.out 3; have hfz37_4 := blk_frozen BK224.out 4; have hfz37_5 := blk_frozen BK224.out 5; have hfz37_6 := blk_frozen BK224.out 6; have hfz37_7 := blk_frozen BK224.out 7))
      refine bodyPost_ret (results_ctt rfl _ _ gb224 23 #[.int .i64 0, .int .i64 0, .int .i64 0, .int .i64 0, .string ⟨#[]⟩, .string ⟨#[]⟩, .bool false, .int .i64 0] (0, 0) _ rfl (by (with_reducible repeat (first | refine blk_drewN ?_ _ | refine blk_drew ?_ | refine blk_alloc ?_ _)); refine blk_put (cs := #[.int .i64 0, .int .i64 0, .int .i64 0, .int .i64 0, .string ⟨#[]⟩, .string ⟨#[]⟩, .bool false, .int .i64 x225007_4]) ?_ 7 _ rfl; (with_reducible repeat (first | refine blk_drewN ?_ _ | refine blk_drew ?_ | refine blk_alloc ?_ _)); refine blk_put (cs := #[.int .i64 0, .int .i64 0, .int .i64 0, .int .i64 0, .string ⟨#[]⟩, .string ⟨#[]⟩, .bool x225006_4, .int .i64 x225007_4]) ?_ 6 _ rfl; (with_reducible repeat (first | refine blk_drewN ?_ _ | refine blk_drew ?_ | refine blk_alloc ?_ _)); refine blk_put (cs := #[.int .i64 0, .int .i64 0, .int .i64 0, .int .i64 0, .string ⟨#[]⟩, .string x225005_4, .bool x225006_4, .int .i64 x225007_4]) ?_ 5 _ rfl; (with_reducible repeat (first | refine blk_drewN ?_ _ | refine blk_drew ?_ | refine blk_alloc ?_ _)); refine blk_put (cs := #[.int .i64 0, .int .i64 0, .int .i64 0, .int .i64 0, .string x225004_4, .string x225005_4, .bool x225006_4, .int .i64 x225007_4]) ?_ 4 _ rfl; (with_reducible repeat (first | refine blk_drewN ?_ _ | refine blk_drew ?_ | refine blk_alloc ?_ _)); refine blk_put (cs := #[.int .i64 0, .int .i64 0, .int .i64 0, .int .i64 x225003_4, .string x225004_4, .string x225005_4, .bool x225006_4, .int .i64 x225007_4]) ?_ 3 _ rfl; (with_reducible repeat (first | refine blk_drewN ?_ _ | refine blk_drew ?_ | refine blk_alloc ?_ _)); refine blk_put (cs := #[.int .i64 0, .int .i64 0, .int .i64 x225002_4, .int .i64 x225003_4, .string x225004_4, .string x225005_4, .bool x225006_4, .int .i64 x225007_4]) ?_ 2 _ rfl; (with_reducible repeat (first | refine blk_drewN ?_ _ | refine blk_drew ?_ | refine blk_alloc ?_ _)); refine blk_put (cs := #[.int .i64 0, .int .i64 x225001_4, .int .i64 x225002_4, .int .i64 x225003_4, .string x225004_4, .string x225005_4, .bool x225006_4, .int .i64 x225007_4]) ?_ 1 _ rfl; (with_reducible repeat (first | refine blk_drewN ?_ _ | refine blk_drew ?_ | refine blk_alloc ?_ _)); refine blk_put (cs := #[.int .i64 x225000_4, .int .i64 x225001_4, .int .i64 x225002_4, .int .i64 x225003_4, .string x225004_4, .string x225005_4, .bool x225006_4, .int .i64 x225007_4]) ?_ 0 _ rfl; (with_reducible repeat (first | refine blk_drewN ?_ _ | refine blk_drew ?_ | refine blk_alloc ?_ _)); exact BK224.out) Tryd.underlying23 rfl (by kernel_rfl)) rfl ?_
      exact ⟨by first | rfl | (simp [errW_none, errW_some] <;> rfl) | (simp [*, errW_none, errW_some] <;> rfl), by repeat (first | (with_reducible first | exact HB.out | apply below_alloc | apply pw_below_drewN | apply below_drew1 | refine below_set ?_ GE223.out | refine below_set ?_ GE224.out) | exact HB.out)⟩
    ·replace c29 := Bool.eq_false_iff.mpr c29
     subst c29
     have H1 : (rivuletref23_rest.j1 kj4 a1 x2_4 a0_0 a0_1 a0_2 a0_3 a0_4 a0_5 x224006_4 a0_7) = some (r1, r2, r3, r4, r5, r6, r7, r8, r9, r10) := by rw [if_neg (show ¬ (false = true) by decide)] at H; exact H
     clear H
     have H := H1
     clear H1
     have H' := Aside0.mk H
     clear H
     go_wp2
     go_meet
     case rel => exact ⟨_, (x2_4), (a0_4), (x225000_4), (x225001_4), (x225002_4), (x225003_4), (x225004_4), (x225005_4), (x225006_4), (x225007_4), (by first | rfl | (simp; done) | (simp [*]; done)), H', ⟨by have := HJ4.out; first | omega | exact Nat.le_refl _⟩, ⟨by (with_reducible repeat (first | refine blk_drewN ?_ _ | refine blk_drew ?_ | refine blk_alloc ?_ _)); exact BK223.out⟩, ⟨by (with_reducible repeat (first | refine blk_drewN ?_ _ | refine blk_drew ?_ | refine blk_alloc ?_ _)); exact BK224.out⟩, ⟨by repeat (first | (with_reducible first | exact HB.out | apply below_alloc | apply pw_below_drewN | apply below_drew1 | refine below_set ?_ GE223.out | refine below_set ?_ GE224.out) | exact HB.out)⟩⟩
   case rest =>
    clear HC25
    try clear c1
    try clear p1
    try clear q1
    try clear hx1
    try clear c2
    try clear p2
    try clear q2
    try clear hx2
    try clear c3
    try clear c4
    try clear c5
    try clear c6
    try clear p6
    try clear c8
    try clear c11
    try clear c12
    try clear c12b0
    try clear c12b1
    try clear c13
    try clear c15
    try clear c15b0
    try clear c16
    try clear c16b0
    try clear p17
    try clear q17
    try clear hx17
    try clear c18
    try clear c18b0
    try clear c19
    try clear p21
    try clear q21
    try clear hx21
    try clear c22
    try clear c26
    try clear c29
    try clear c31
    try clear c31b0
    try clear c31b1
    try clear c33
    try clear c36
    try clear hcz14_0
    try clear hcz14_1
    try clear hcz14_2
    try clear hcz14_3
    try clear hcz14_4
    try clear hcz14_5
    try clear hcz14_6
    try clear hcz14_7
    try clear hcz20_0
    try clear hcz20_1
    try clear hcz20_2
    try clear hcz20_3
    try clear hcz20_4
    try clear hcz20_5
    try clear hcz20_6
    try clear hcz20_7
    try clear hcz23_0
    try clear hcz23_1
    try clear hcz23_2
    try clear hcz23_3
    try clear hcz23_4
    try clear hcz23_5
    try clear hcz23_6
    try clear hcz23_7
    try clear hcz27_0
    try clear hcz27_1
    try clear hcz27_2
    try clear hcz27_3
    try clear hcz27_4
    try clear hcz27_5
    try clear hcz27_6
    try clear hcz27_7
    try clear hcz34_0
    try clear hcz34_1
    try clear hcz34_2
    try clear hcz34_3
    try clear hcz34_4
    try clear hcz34_5
    try clear hcz34_6
    try clear hcz34_7
    try clear hcz37_0
    try clear hcz37_1
    try clear hcz37_2
    try clear hcz37_3
    try clear hcz37_4
    try clear hcz37_5
    try clear hcz37_6
    try clear hcz37_7
    try clear hcz9_0
    try clear hcz9_1
    try clear hcz9_2
    try clear hcz9_3
    try clear hcz9_4
    try clear hcz9_5
    try clear hcz9_6
    try clear hcz9_7
    try clear hfz14_0
    try clear hfz14_1
    try clear hfz14_2
    try clear hfz14_3
    try clear hfz14_4
    try clear hfz14_5
    try clear hfz14_6
    try clear hfz14_7
    try clear hfz20_0
    try clear hfz20_1
    try clear hfz20_2
    try clear hfz20_3
    try clear hfz20_4
    try clear hfz20_5
    try clear hfz20_6
    try clear hfz20_7
    try clear hfz23_0
    try clear hfz23_1
    try clear hfz23_2
    try clear hfz23_3
    try clear hfz23_4
    try clear hfz23_5
    try clear hfz23_6
    try clear hfz23_7
    try clear hfz27_0
    try clear hfz27_1
    try clear hfz27_2
    try clear hfz27_3
    try clear hfz27_4
    try clear hfz27_5
    try clear hfz27_6
    try clear hfz27_7
    try clear hfz34_0
    try clear hfz34_1
    try clear hfz34_2
    try clear hfz34_3
    try clear hfz34_4
    try clear hfz34_5
    try clear hfz34_6
    try clear hfz34_7
    try clear hfz37_0
    try clear hfz37_1
    try clear hfz37_2
    try clear hfz37_3
    try clear hfz37_4
    try clear hfz37_5
    try clear hfz37_6
    try clear hfz37_7
    try clear hfz9_0
    try clear hfz9_1
    try clear hfz9_2
    try clear hfz9_3
    try clear hfz9_4
    try clear hfz9_5
    try clear hfz9_6
    try clear hfz9_7
    try clear p1
    try clear p17
    try clear p2
    try clear p21
    try clear p6
    try clear q1
    try clear q17
    try clear q2
    try clear q21
    obtain ⟨kq, x2_24, x224004_24, x225000_24, x225001_24, x225002_24, x225003_24, x225004_24, x225005_24, x225006_24, x225007_24, rfl, HA, HJ24, BK223, BK224, HB⟩ := hcut
    cases kq with
    | zero => exact absurd HA.out (by simp [rivuletref23_rest.j1])
    | succ kj24 =>
     have H := HA.out
     clear HA
     simp only [rivuletref23_rest.j1] at H
     replace H := Option.bind_eq_some_iff.mp H
     obtain ⟨t230, A380, H⟩ := H
     replace H : (if t230 = true then ((rivuletref01_Cut.f kj24 a1 x2_24).bind fun bt231 => (if bt231.2.2 = 0 then ((rivuletref23_Right.f kj24 a0_0 a0_1 a0_2 a0_3 x224004_24 bt231.1 x224006_4 a0_7).bind fun t234 => (if t234 = true then (some (a0_0, a0_1, a0_2, a0_3, x224004_24, bt231.1, x224006_4, a0_7, bt231.2.1, 0)) else (some (0, 0, 0, 0, (⟨#[]⟩ : ByteArray), (⟨#[]⟩ : ByteArray), false, 0, 0, 4)))) else (some (0, 0, 0, 0, (⟨#[]⟩ : ByteArray), (⟨#[]⟩ : ByteArray), false, 0, 0, bt231.2.2)))) else ((rivuletref23_Right.f kj24 a0_0 a0_1 a0_2 a0_3 x224004_24 a0_5 x224006_4 a0_7).bind fun t235 => (if t235 = true then (some (a0_0, a0_1, a0_2, a0_3, x224004_24, a0_5, x224006_4, a0_7, x2_24, 0)) else (some (0, 0, 0, 0, (⟨#[]⟩ : ByteArray), (⟨#[]⟩ : ByteArray), false, 0, 0, 4))))) = some (r1, r2, r3, r4, r5, r6, r7, r8, r9, r10) := H
     have A38 := Aside0.mk A380
     clear A380
     by_cases c39 : t230 = true
     ·subst c39
      have H1 : ((rivuletref01_Cut.f kj24 a1 x2_24).bind fun bt231 => (if bt231.2.2 = 0 then ((rivuletref23_Right.f kj24 a0_0 a0_1 a0_2 a0_3 x224004_24 bt231.1 x224006_4 a0_7).bind fun t234 => (if t234 = true then (some (a0_0, a0_1, a0_2, a0_3, x224004_24, bt231.1, x224006_4, a0_7, bt231.2.1, 0)) else (some (0, 0, 0, 0, (⟨#[]⟩ : ByteArray), (⟨#[]⟩ : ByteArray), false, 0, 0, 4)))) else (some (0, 0, 0, 0, (⟨#[]⟩ : ByteArray), (⟨#[]⟩ : ByteArray), false, 0, 0, bt231.2.2)))) = some (r1, r2, r3, r4, r5, r6, r7, r8, r9, r10) := by rw [if_pos rfl] at H; exact H
      clear H
      have H := H1
      clear H1
      replace H := Option.bind_eq_some_iff.mp H
      obtain ⟨⟨t231, t232, t233⟩, A400, H⟩ := H
      replace H : (if t233 = 0 then ((rivuletref23_Right.f kj24 a0_0 a0_1 a0_2 a0_3 x224004_24 t231 x224006_4 a0_7).bind fun t234 => (if t234 = true then (some (a0_0, a0_1, a0_2, a0_3, x224004_24, t231, x224006_4, a0_7, t232, 0)) else (some (0, 0, 0, 0, (⟨#[]⟩ : ByteArray), (⟨#[]⟩ : ByteArray), false, 0, 0, 4)))) else (some (0, 0, 0, 0, (⟨#[]⟩ : ByteArray), (⟨#[]⟩ : ByteArray), false, 0, 0, t233))) = some (r1, r2, r3, r4, r5, r6, r7, r8, r9, r10) := H
      have A40 := Aside0.mk A400
      clear A400
      by_cases c41 : t233 = 0
      ·rw [if_pos c41] at H
       have c41b0 : (t233 == 0) = true := beq_iff_eq.mpr c41
       have c41b1 : (t233 != 0) = false := bne_eq_false_iff_eq.mpr c41
       clear c41
       replace H := Option.bind_eq_some_iff.mp H
       obtain ⟨t234, A420, H⟩ := H
       replace H : (if t234 = true then (some (a0_0, a0_1, a0_2, a0_3, x224004_24, t231, x224006_4, a0_7, t232, 0)) else (some (0, 0, 0, 0, (⟨#[]⟩ : ByteArray), (⟨#[]⟩ : ByteArray), false, 0, 0, 4))) = some (r1, r2, r3, r4, r5, r6, r7, r8, r9, r10) := H
       have A42 := Aside0.mk A420
       clear A420
       by_cases c43 : t234 = true
       ·subst c43
        have H1 : (some (a0_0, a0_1, a0_2, a0_3, x224004_24, t231, x224006_4, a0_7, t232, 0)) = some (r1, r2, r3, r4, r5, r6, r7, r8, r9, r10) := by rw [if_pos rfl] at H; exact H
        clear H
        have H := H1
        clear H1
        simp only [Option.some.injEq, Prod.mk.injEq] at H
        obtain ⟨rfl, rfl, rfl, rfl, rfl, rfl, rfl, rfl, rfl, rfl⟩ := H
        have hnb44 := NB223_224.out
        have hnc44 := NB224_223.out
        have hcz45_0 : wc.cell? ⟨gb223, 0, none⟩ = some (.int .i64 a0_0) := (blk_cell BK223.out 0).trans rfl
        have hcz45_1 : wc.cell? ⟨gb223, 1, none⟩ = some (.int .i64 a0_1) := (blk_cell BK223.out 1).trans rfl
        have hcz45_2 : wc.cell? ⟨gb223, 2, none⟩ = some (.int .i64 a0_2) := (blk_cell BK223.out 2).trans rfl
        have hcz45_3 : wc.cell? ⟨gb223, 3, none⟩ = some (.int .i64 a0_3) := (blk_cell BK223.out 3).trans rfl
        have hcz45_4 : wc.cell? ⟨gb223, 4, none⟩ = some (.string x224004_24) := (blk_cell BK223.out 4).trans rfl
        have hcz45_5 : wc.cell? ⟨gb223, 5, none⟩ = some (.string a0_5) := (blk_cell BK223.out 5).trans rfl
        have hcz45_6 : wc.cell? ⟨gb223, 6, none⟩ = some (.bool x224006_4) := (blk_cell BK223.out 6).trans rfl
        have hcz45_7 : wc.cell? ⟨gb223, 7, none⟩ = some (.int .i64 a0_7) := (blk_cell BK223.out 7).trans rfl
        have hfz45_0 := blk_frozen BK223.out 0
        have hfz45_1 := blk_frozen BK223.out 1
        have hfz45_2 := blk_frozen BK223.out 2
        have hfz45_3 := blk_frozen BK223.out 3
        have hfz45_4 := blk_frozen BK223.out 4
        have hfz45_5 := blk_frozen BK223.out 5
        have hfz45_6 := blk_frozen BK223.out 6
        have hfz45_7 := blk_frozen BK223.out 7
        go_wp2_with (first | ((with_reducible refine gate_callee (f := 41) rfl ?_); refine goesL_ (some 54) rfl rfl Tryd.func41 (by kernel_rfl) rfl #[.int .i64 a0_0, .int .i64 6] rfl (by (try simp only [List.map_toArray, List.map_cons, List.map_nil]); first | done | rfl | (simp only [List.length_drop, List.length_take]; rfl)) ?_; (with_reducible refine (rivuletref23_Has.calls a0_0 6 true _ A38.out).mono ?_); rintro e w46 ⟨rfl, hb⟩; refine ⟨_, rfl, ?_⟩; have n0_ := Aside0.mk (blk_below (g := gb223) (o := .cells #[.int .i64 a0_0, .int .i64 a0_1, .int .i64 a0_2, .int .i64 a0_3, .string x224004_24, .string a0_5, .bool x224006_4, .int .i64 a0_7] 23 (0, 0)) (by (with_reducible repeat (first | refine blk_drewN ?_ _ | refine blk_drew ?_ | refine blk_alloc ?_ _)); exact BK223.out) hb); have n1_ := Aside0.mk (blk_below (g := gb224) (o := .cells #[.int .i64 x225000_24, .int .i64 x225001_24, .int .i64 x225002_24, .int .i64 x225003_24, .string x225004_24, .string x225005_24, .bool x225006_24, .int .i64 x225007_24] 23 (0, 0)) (by (with_reducible repeat (first | refine blk_drewN ?_ _ | refine blk_drew ?_ | refine blk_alloc ?_ _)); exact BK224.out) hb); have n2_ := Aside0.mk (below_step (by repeat (first | (with_reducible first | exact HB.out | apply below_alloc | apply pw_below_drewN | apply below_drew1 | refine below_set ?_ GE223.out | refine below_set ?_ GE224.out) | exact HB.out)) hb); clear BK223; clear BK224; clear HB; have BK223 := n0_; have BK224 := n1_; have HB := n2_; clear n0_ n1_ n2_; (try clear hb); (try clear hb2); (try clear hk); (try clear hi)) | ((with_reducible refine gate_callee (f := 68) rfl ?_); refine goesL_ (some 58) rfl rfl Tryd.func68 (by kernel_rfl) rfl #[.string a1, .int .i64 x2_24] rfl (by (try simp only [List.map_toArray, List.map_cons, List.map_nil]); first | done | rfl | (simp only [List.length_drop, List.length_take]; rfl)) ?_; (with_reducible refine (rivuletref01_Cut.calls kj24 a1 x2_24 t231 t232 t233 _ A40.out).mono ?_); rintro e w47 ⟨rfl, hb⟩; refine ⟨_, rfl, ?_⟩; have n0_ := Aside0.mk (blk_below (g := gb223) (o := .cells #[.int .i64 a0_0, .int .i64 a0_1, .int .i64 a0_2, .int .i64 a0_3, .string x224004_24, .string a0_5, .bool x224006_4, .int .i64 a0_7] 23 (0, 0)) (by (with_reducible repeat (first | refine blk_drewN ?_ _ | refine blk_drew ?_ | refine blk_alloc ?_ _)); exact BK223.out) hb); have n1_ := Aside0.mk (blk_below (g := gb224) (o := .cells #[.int .i64 x225000_24, .int .i64 x225001_24, .int .i64 x225002_24, .int .i64 x225003_24, .string x225004_24, .string x225005_24, .bool x225006_24, .int .i64 x225007_24] 23 (0, 0)) (by (with_reducible repeat (first | refine blk_drewN ?_ _ | refine blk_drew ?_ | refine blk_alloc ?_ _)); exact BK224.out) hb); have n2_ := Aside0.mk (below_step (by repeat (first | (with_reducible first | exact HB.out | apply below_alloc | apply pw_below_drewN | apply below_drew1 | refine below_set ?_ GE223.out | refine below_set ?_ GE224.out) | exact HB.out)) hb); clear BK223; clear BK224; clear HB; have BK223 := n0_; have BK224 := n1_; have HB := n2_; clear n0_ n1_ n2_; (try clear hb); (try clear hb2); (try clear hk); (try clear hi); have hcz48_0 : w47.cell? ⟨gb223, 0, none⟩ = some (.int .i64 a0_0) := (blk_cell BK223.out 0).trans rfl; have hcz48_1 : w47.cell? ⟨gb223, 1, none⟩ = some (.int .i64 a0_1) := (blk_cell BK223.out 1).trans rfl; have hcz48_2 : w47.cell? ⟨gb223, 2, none⟩ = some (.int .i64 a0_2) := (blk_cell BK223.out 2).trans rfl; have hcz48_3 : w47.cell? ⟨gb223, 3, none⟩ = some (.int .i64 a0_3) := (blk_cell BK223.out 3).trans rfl; have hcz48_4 : w47.cell? ⟨gb223, 4, none⟩ = some (.string x224004_24) := (blk_cell BK223.out 4).trans rfl; have hcz48_5 : w47.cell? ⟨gb223, 5, none⟩ = some (.string a0_5) := (blk_cell BK223.out 5).trans rfl; have hcz48_6 : w47.cell? ⟨gb223, 6, none⟩ = some (.bool x224006_4) := (blk_cell BK223.out 6).trans rfl; have hcz48_7 : w47.cell? ⟨gb223, 7, none⟩ = some (.int .i64 a0_7) := (blk_cell BK223.out 7).trans rfl; have hfz48_0 := blk_frozen BK223.out 0; have hfz48_1 := blk_frozen BK223.out 1; have hfz48_2 := blk_frozen BK223.out 2; have hfz48_3 := blk_frozen BK223.out 3; have hfz48_4 := blk_frozen BK223.out 4; have hfz48_5 := blk_frozen BK223.out 5; have hfz48_6 := blk_frozen BK223.out 6; have hfz48_7 := blk_frozen BK223.out 7) | ((with_reducible refine gate_callee (f := 12) rfl ?_); refine goesL_ (some 70) rfl rfl Tryd.func12 (by kernel_rfl) rfl #[.agg #[.int .i64 a0_0, .int .i64 a0_1, .int .i64 a0_2, .int .i64 a0_3, .string x224004_24, .string t231, .bool x224006_4, .int .i64 a0_7]] rfl (by (try simp only [List.map_toArray, List.map_cons, List.map_nil]); first | done | rfl | (simp only [List.length_drop, List.length_take]; rfl)) ?_; (with_reducible refine (rivuletref23_Right.calls kj24 a0_0 a0_1 a0_2 a0_3 x224004_24 t231 x224006_4 a0_7 true _ A42.out).mono ?_); rintro e w49 ⟨rfl, hb⟩; refine ⟨_, rfl, ?_⟩; have n0_ := Aside0.mk (blk_below (g := gb223) (o := .cells #[.int .i64 a0_0, .int .i64 a0_1, .int .i64 a0_2, .int .i64 a0_3, .string x224004_24, .string t231, .bool x224006_4, .int .i64 a0_7] 23 (0, 0)) (by (with_reducible repeat (first | refine blk_drewN ?_ _ | refine blk_drew ?_ | refine blk_alloc ?_ _)); refine blk_put (cs := #[.int .i64 a0_0, .int .i64 a0_1, .int .i64 a0_2, .int .i64 a0_3, .string x224004_24, .string a0_5, .bool x224006_4, .int .i64 a0_7]) ?_ 5 _ rfl; (with_reducible repeat (first | refine blk_drewN ?_ _ | refine blk_drew ?_ | refine blk_alloc ?_ _)); exact BK223.out) hb); have n1_ := Aside0.mk (blk_below (g := gb224) (o := .cells #[.int .i64 x225000_24, .int .i64 x225001_24, .int .i64 x225002_24, .int .i64 x225003_24, .string x225004_24, .string x225005_24, .bool x225006_24, .int .i64 x225007_24] 23 (0, 0)) (by (with_reducible repeat (first | refine blk_drewN ?_ _ | refine blk_drew ?_ | refine blk_alloc ?_ _)); refine blk_far ?_ NB224_223.out _; (with_reducible repeat (first | refine blk_drewN ?_ _ | refine blk_drew ?_ | refine blk_alloc ?_ _)); exact BK224.out) hb); have n2_ := Aside0.mk (below_step (by repeat (first | (with_reducible first | exact HB.out | apply below_alloc | apply pw_below_drewN | apply below_drew1 | refine below_set ?_ GE223.out | refine below_set ?_ GE224.out) | exact HB.out)) hb); clear BK223; clear BK224; clear HB; have BK223 := n0_; have BK224 := n1_; have HB := n2_; clear n0_ n1_ n2_; (try clear hb); (try clear hb2); (try clear hk); (try clear hi); have hcz50_0 : w49.cell? ⟨gb223, 0, none⟩ = some (.int .i64 a0_0) := (blk_cell BK223.out 0).trans rfl; have hcz50_1 : w49.cell? ⟨gb223, 1, none⟩ = some (.int .i64 a0_1) := (blk_cell BK223.out 1).trans rfl; have hcz50_2 : w49.cell? ⟨gb223, 2, none⟩ = some (.int .i64 a0_2) := (blk_cell BK223.out 2).trans rfl; have hcz50_3 : w49.cell? ⟨gb223, 3, none⟩ = some (.int .i64 a0_3) := (blk_cell BK223.out 3).trans rfl; have hcz50_4 : w49.cell? ⟨gb223, 4, none⟩ = some (.string x224004_24) := (blk_cell BK223.out 4).trans rfl; have hcz50_5 : w49.cell? ⟨gb223, 5, none⟩ = some (.string t231) := (blk_cell BK223.out 5).trans rfl; have hcz50_6 : w49.cell? ⟨gb223, 6, none⟩ = some (.bool x224006_4) := (blk_cell BK223.out 6).trans rfl; have hcz50_7 : w49.cell? ⟨gb223, 7, none⟩ = some (.int .i64 a0_7) := (blk_cell BK223.out 7).trans rfl; have hfz50_0 := blk_frozen BK223.out 0; have hfz50_1 := blk_frozen BK223.out 1; have hfz50_2 := blk_frozen BK223.out 2; have hfz50_3 := blk_frozen BK223.out 3; have hfz50_4 := blk_frozen BK223.out 4; have hfz50_5 := blk_frozen BK223.out 5; have hfz50_6 := blk_frozen BK223.out 6; have hfz50_7 := blk_frozen BK223.out 7; have hcz51_0 : w49.cell? ⟨gb224, 0, none⟩ = some (.int .i64 x225000_24) := (blk_cell BK224.out 0).trans rfl; have hcz51_1 : w49.cell? ⟨gb224, 1, none⟩ = some (.int .i64 x225001_24) := (blk_cell BK224.out 1).trans rfl; have hcz51_2 : w49.cell? ⟨gb224, 2, none⟩ = some (.int .i64 x225002_24) := (blk_cell BK224.out 2).trans rfl; have hcz51_3 : w49.cell? ⟨gb224, 3, none⟩ = some (.int .i64 x225003_24) := (blk_cell BK224.out 3).trans rfl; have hcz51_4 : w49.cell? ⟨gb224, 4, none⟩ = some (.string x225004_24) := (blk_cell BK224.out 4).trans rfl; have hcz51_5 : w49.cell? ⟨gb224, 5, none⟩ = some (.string x225005_24) := (blk_cell BK224.out 5).trans rfl; have hcz51_6 : w49.cell? ⟨gb224, 6, none⟩ = some (.bool x225006_24) := (blk_cell BK224.out 6).trans rfl; have hcz51_7 : w49.cell? ⟨gb224, 7, none⟩ = some (.int .i64 x225007_24) := (blk_cell BK224.out 7).trans rfl; have hfz51_0 := blk_frozen BK224.out 0; have hfz51_1 := blk_frozen BK224.out 1; have hfz51_2 := blk_frozen BK224.out 2; have hfz51_3 := blk_frozen BK224.out 3; have hfz51_4 := blk_frozen BK224.out 4; have hfz51_5 := blk_frozen BK224.out 5; have hfz51_6 := blk_frozen BK224.out 6; have hfz51_7 := blk_frozen BK224.out 7))
        refine bodyPost_ret (results_ctt rfl _ _ gb224 23 #[.int .i64 a0_0, .int .i64 a0_1, .int .i64 a0_2, .int .i64 a0_3, .string x224004_24, .string t231, .bool x224006_4, .int .i64 a0_7] (0, 0) _ rfl (by (with_reducible repeat (first | refine blk_drewN ?_ _ | refine blk_drew ?_ | refine blk_alloc ?_ _)); refine blk_put (cs := #[.int .i64 a0_0, .int .i64 a0_1, .int .i64 a0_2, .int .i64 a0_3, .string x224004_24, .string t231, .bool x224006_4, .int .i64 x225007_24]) ?_ 7 _ rfl; (with_reducible repeat (first | refine blk_drewN ?_ _ | refine blk_drew ?_ | refine blk_alloc ?_ _)); refine blk_put (cs := #[.int .i64 a0_0, .int .i64 a0_1, .int .i64 a0_2, .int .i64 a0_3, .string x224004_24, .string t231, .bool x225006_24, .int .i64 x225007_24]) ?_ 6 _ rfl; (with_reducible repeat (first | refine blk_drewN ?_ _ | refine blk_drew ?_ | refine blk_alloc ?_ _)); refine blk_put (cs := #[.int .i64 a0_0, .int .i64 a0_1, .int .i64 a0_2, .int .i64 a0_3, .string x224004_24, .string x225005_24, .bool x225006_24, .int .i64 x225007_24]) ?_ 5 _ rfl; (with_reducible repeat (first | refine blk_drewN ?_ _ | refine blk_drew ?_ | refine blk_alloc ?_ _)); refine blk_put (cs := #[.int .i64 a0_0, .int .i64 a0_1, .int .i64 a0_2, .int .i64 a0_3, .string x225004_24, .string x225005_24, .bool x225006_24, .int .i64 x225007_24]) ?_ 4 _ rfl; (with_reducible repeat (first | refine blk_drewN ?_ _ | refine blk_drew ?_ | refine blk_alloc ?_ _)); refine blk_put (cs := #[.int .i64 a0_0, .int .i64 a0_1, .int .i64 a0_2, .int .i64 x225003_24, .string x225004_24, .string x225005_24, .bool x225006_24, .int .i64 x225007_24]) ?_ 3 _ rfl; (with_reducible repeat (first | refine blk_drewN ?_ _ | refine blk_drew ?_ | refine blk_alloc ?_ _)); refine blk_put (cs := #[.int .i64 a0_0, .int .i64 a0_1, .int .i64 x225002_24, .int .i64 x225003_24, .string x225004_24, .string x225005_24, .bool x225006_24, .int .i64 x225007_24]) ?_ 2 _ rfl; (with_reducible repeat (first | refine blk_drewN ?_ _ | refine blk_drew ?_ | refine blk_alloc ?_ _)); refine blk_put (cs := #[.int .i64 a0_0, .int .i64 x225001_24, .int .i64 x225002_24, .int .i64 x225003_24, .string x225004_24, .string x225005_24, .bool x225006_24, .int .i64 x225007_24]) ?_ 1 _ rfl; (with_reducible repeat (first | refine blk_drewN ?_ _ | refine blk_drew ?_ | refine blk_alloc ?_ _)); refine blk_put (cs := #[.int .i64 x225000_24, .int .i64 x225001_24, .int .i64 x225002_24, .int .i64 x225003_24, .string x225004_24, .string x225005_24, .bool x225006_24, .int .i64 x225007_24]) ?_ 0 _ rfl; (with_reducible repeat (first | refine blk_drewN ?_ _ | refine blk_drew ?_ | refine blk_alloc ?_ _)); exact BK224.out) Tryd.underlying23 rfl (by kernel_rfl)) rfl ?_
        exact ⟨by first | rfl | (simp [errW_none, errW_some] <;> rfl) | (simp [*, errW_none, errW_some] <;> rfl), by repeat (first | (with_reducible first | exact HB.out | apply below_alloc | apply pw_below_drewN | apply below_drew1 | refine below_set ?_ GE223.out | refine below_set ?_ GE224.out) | exact HB.out)⟩
       ·replace c43 := Bool.eq_false_iff.mpr c43
        subst c43
        have H1 : (some (0, 0, 0, 0, (⟨#[]⟩ : ByteArray), (⟨#[]⟩ : ByteArray), false, 0, 0, 4)) = some (r1, r2, r3, r4, r5, r6, r7, r8, r9, r10) := by rw [if_neg (show ¬ (false = true) by decide)] at H; exact H
        clear H
        have H := H1
        clear H1
        simp only [Option.some.injEq, Prod.mk.injEq] at H
        obtain ⟨rfl, rfl, rfl, rfl, rfl, rfl, rfl, rfl, rfl, rfl⟩ := H
        have hnb52 := NB223_224.out
        have hnc52 := NB224_223.out
        have hcz53_0 : wc.cell? ⟨gb223, 0, none⟩ = some (.int .i64 a0_0) := (blk_cell BK223.out 0).trans rfl
        have hcz53_1 : wc.cell? ⟨gb223, 1, none⟩ = some (.int .i64 a0_1) := (blk_cell BK223.out 1).trans rfl
        have hcz53_2 : wc.cell? ⟨gb223, 2, none⟩ = some (.int .i64 a0_2) := (blk_cell BK223.out 2).trans rfl
        have hcz53_3 : wc.cell? ⟨gb223, 3, none⟩ = some (.int .i64 a0_3) := (blk_cell BK223.out 3).trans rfl
        have hcz53_4 : wc.cell? ⟨gb223, 4, none⟩ = some (.string x224004_24) := (blk_cell BK223.out 4).trans rfl
        have hcz53_5 : wc.cell? ⟨gb223, 5, none⟩ = some (.string a0_5) := (blk_cell BK223.out 5).trans rfl
        have hcz53_6 : wc.cell? ⟨gb223, 6, none⟩ = some (.bool x224006_4) := (blk_cell BK223.out 6).trans rfl
        have hcz53_7 : wc.cell? ⟨gb223, 7, none⟩ = some (.int .i64 a0_7) := (blk_cell BK223.out 7).trans rfl
        have hfz53_0 := blk_frozen BK223.out 0
        have hfz53_1 := blk_frozen BK223.out 1
        have hfz53_2 := blk_frozen BK223.out 2
        have hfz53_3 := blk_frozen BK223.out 3
        have hfz53_4 := blk_frozen BK223.out 4
        have hfz53_5 := blk_frozen BK223.out 5
        have hfz53_6 := blk_frozen BK223.out 6
        have hfz53_7 := blk_frozen BK223.out 7
        go_wp2_with (first | ((with_reducible refine gate_callee (f := 41) rfl ?_); refine goesL_ (some 54) rfl rfl Tryd.func41 (by kernel_rfl) rfl #[.int .i64 a0_0, .int .i64 6] rfl (by (try simp only [List.map_toArray, List.map_cons, List.map_nil]); first | done | rfl | (simp only [List.length_drop, List.length_take]; rfl)) ?_; (with_reducible refine (rivuletref23_Has.calls a0_0 6 true _ A38.out).mono ?_); rintro e w54 ⟨rfl, hb⟩; refine ⟨_, rfl, ?_⟩; have n0_ := Aside0.mk (blk_below (g := gb223) (o := .cells #[.int .i64 a0_0, .int .i64 a0_1, .int .i64 a0_2, .int .i64 a0_3, .string x224004_24, .string a0_5, .bool x224006_4, .int .i64 a0_7] 23 (0, 0)) (by (with_reducible repeat (first | refine blk_drewN ?_ _ | refine blk_drew ?_ | refine blk_alloc ?_ _)); exact BK223.out) hb); have n1_ := Aside0.mk (blk_below (g := gb224) (o := .cells #[.int .i64 x225000_24, .int .i64 x225001_24, .int .i64 x225002_24, .int .i64 x225003_24, .string x225004_24, .string x225005_24, .bool x225006_24, .int .i64 x225007_24] 23 (0, 0)) (by (with_reducible repeat (first | refine blk_drewN ?_ _ | refine blk_drew ?_ | refine blk_alloc ?_ _)); exact BK224.out) hb); have n2_ := Aside0.mk (below_step (by repeat (first | (with_reducible first | exact HB.out | apply below_alloc | apply pw_below_drewN | apply below_drew1 | refine below_set ?_ GE223.out | refine below_set ?_ GE224.out) | exact HB.out)) hb); clear BK223; clear BK224; clear HB; have BK223 := n0_; have BK224 := n1_; have HB := n2_; clear n0_ n1_ n2_; (try clear hb); (try clear hb2); (try clear hk); (try clear hi)) | ((with_reducible refine gate_callee (f := 68) rfl ?_); refine goesL_ (some 58) rfl rfl Tryd.func68 (by kernel_rfl) rfl #[.string a1, .int .i64 x2_24] rfl (by (try simp only [List.map_toArray, List.map_cons, List.map_nil]); first | done | rfl | (simp only [List.length_drop, List.length_take]; rfl)) ?_; (with_reducible refine (rivuletref01_Cut.calls kj24 a1 x2_24 t231 t232 t233 _ A40.out).mono ?_); rintro e w55 ⟨rfl, hb⟩; refine ⟨_, rfl, ?_⟩; have n0_ := Aside0.mk (blk_below (g := gb223) (o := .cells #[.int .i64 a0_0, .int .i64 a0_1, .int .i64 a0_2, .int .i64 a0_3, .string x224004_24, .string a0_5, .bool x224006_4, .int .i64 a0_7] 23 (0, 0)) (by (with_reducible repeat (first | refine blk_drewN ?_ _ | refine blk_drew ?_ | refine blk_alloc ?_ _)); exact BK223.out) hb); have n1_ := Aside0.mk (blk_below (g := gb224) (o := .cells #[.int .i64 x225000_24, .int .i64 x225001_24, .int .i64 x225002_24, .int .i64 x225003_24, .string x225004_24, .string x225005_24, .bool x225006_24, .int .i64 x225007_24] 23 (0, 0)) (by (with_reducible repeat (first | refine blk_drewN ?_ _ | refine blk_drew ?_ | refine blk_alloc ?_ _)); exact BK224.out) hb); have n2_ := Aside0.mk (below_step (by repeat (first | (with_reducible first | exact HB.out | apply below_alloc | apply pw_below_drewN | apply below_drew1 | refine below_set ?_ GE223.out | refine below_set ?_ GE224.out) | exact HB.out)) hb); clear BK223; clear BK224; clear HB; have BK223 := n0_; have BK224 := n1_; have HB := n2_; clear n0_ n1_ n2_; (try clear hb); (try clear hb2); (try clear hk); (try clear hi); have hcz56_0 : w55.cell? ⟨gb223, 0, none⟩ = some (.int .i64 a0_0) := (blk_cell BK223.out 0).trans rfl; have hcz56_1 : w55.cell? ⟨gb223, 1, none⟩ = some (.int .i64 a0_1) := (blk_cell BK223.out 1).trans rfl; have hcz56_2 : w55.cell? ⟨gb223, 2, none⟩ = some (.int .i64 a0_2) := (blk_cell BK223.out 2).trans rfl; have hcz56_3 : w55.cell? ⟨gb223, 3, none⟩ = some (.int .i64 a0_3) := (blk_cell BK223.out 3).trans rfl; have hcz56_4 : w55.cell? ⟨gb223, 4, none⟩ = some (.string x224004_24) := (blk_cell BK223.out 4).trans rfl; have hcz56_5 : w55.cell? ⟨gb223, 5, none⟩ = some (.string a0_5) := (blk_cell BK223.out 5).trans rfl; have hcz56_6 : w55.cell? ⟨gb223, 6, none⟩ = some (.bool x224006_4) := (blk_cell BK223.out 6).trans rfl; have hcz56_7 : w55.cell? ⟨gb223, 7, none⟩ = some (.int .i64 a0_7) := (blk_cell BK223.out 7).trans rfl; have hfz56_0 := blk_frozen BK223.out 0; have hfz56_1 := blk_frozen BK223.out 1; have hfz56_2 := blk_frozen BK223.out 2; have hfz56_3 := blk_frozen BK223.out 3; have hfz56_4 := blk_frozen BK223.out 4; have hfz56_5 := blk_frozen BK223.out 5; have hfz56_6 := blk_frozen BK223.out 6; have hfz56_7 := blk_frozen BK223.out 7) | ((with_reducible refine gate_callee (f := 12) rfl ?_); refine goesL_ (some 70) rfl rfl Tryd.func12 (by kernel_rfl) rfl #[.agg #[.int .i64 a0_0, .int .i64 a0_1, .int .i64 a0_2, .int .i64 a0_3, .string x224004_24, .string t231, .bool x224006_4, .int .i64 a0_7]] rfl (by (try simp only [List.map_toArray, List.map_cons, List.map_nil]); first | done | rfl | (simp only [List.length_drop, List.length_take]; rfl)) ?_; (with_reducible refine (rivuletref23_Right.calls kj24 a0_0 a0_1 a0_2 a0_3 x224004_24 t231 x224006_4 a0_7 false _ A42.out).mono ?_); rintro e w57 ⟨rfl, hb⟩; refine ⟨_, rfl, ?_⟩; have n0_ := Aside0.mk (blk_below (g := gb223) (o := .cells #[.int .i64 a0_0, .int .i64 a0_1, .int .i64 a0_2, .int .i64 a0_3, .string x224004_24, .string t231, .bool x224006_4, .int .i64 a0_7] 23 (0, 0)) (by (with_reducible repeat (first | refine blk_drewN ?_ _ | refine blk_drew ?_ | refine blk_alloc ?_ _)); refine blk_put (cs := #[.int .i64 a0_0, .int .i64 a0_1, .int .i64 a0_2, .int .i64 a0_3, .string x224004_24, .string a0_5, .bool x224006_4, .int .i64 a0_7]) ?_ 5 _ rfl; (with_reducible repeat (first | refine blk_drewN ?_ _ | refine blk_drew ?_ | refine blk_alloc ?_ _)); exact BK223.out) hb); have n1_ := Aside0.mk (blk_below (g := gb224) (o := .cells #[.int .i64 x225000_24, .int .i64 x225001_24, .int .i64 x225002_24, .int .i64 x225003_24, .string x225004_24, .string x225005_24, .bool x225006_24, .int .i64 x225007_24] 23 (0, 0)) (by (with_reducible repeat (first | refine blk_drewN ?_ _ | refine blk_drew ?_ | refine blk_alloc ?_ _)); refine blk_far ?_ NB224_223.out _; (with_reducible repeat (first | refine blk_drewN ?_ _ | refine blk_drew ?_ | refine blk_alloc ?_ _)); exact BK224.out) hb); have n2_ := Aside0.mk (below_step (by repeat (first | (with_reducible first | exact HB.out | apply below_alloc | apply pw_below_drewN | apply below_drew1 | refine below_set ?_ GE223.out | refine below_set ?_ GE224.out) | exact HB.out)) hb); clear BK223; clear BK224; clear HB; have BK223 := n0_; have BK224 := n1_; have HB := n2_; clear n0_ n1_ n2_; (try clear hb); (try clear hb2); (try clear hk); (try clear hi); have hcz58_0 : w57.cell? ⟨gb224, 0, none⟩ = some (.int .i64 x225000_24) := (blk_cell BK224.out 0).trans rfl; have hcz58_1 : w57.cell? ⟨gb224, 1, none⟩ = some (.int .i64 x225001_24) := (blk_cell BK224.out 1).trans rfl; have hcz58_2 : w57.cell? ⟨gb224, 2, none⟩ = some (.int .i64 x225002_24) := (blk_cell BK224.out 2).trans rfl; have hcz58_3 : w57.cell? ⟨gb224, 3, none⟩ = some (.int .i64 x225003_24) := (blk_cell BK224.out 3).trans rfl; have hcz58_4 : w57.cell? ⟨gb224, 4, none⟩ = some (.string x225004_24) := (blk_cell BK224.out 4).trans rfl; have hcz58_5 : w57.cell? ⟨gb224, 5, none⟩ = some (.string x225005_24) := (blk_cell BK224.out 5).trans rfl; have hcz58_6 : w57.cell? ⟨gb224, 6, none⟩ = some (.bool x225006_24) := (blk_cell BK224.out 6).trans rfl; have hcz58_7 : w57.cell? ⟨gb224, 7, none⟩ = some (.int .i64 x225007_24) := (blk_cell BK224.out 7).trans rfl; have hfz58_0 := blk_frozen BK224.out 0; have hfz58_1 := blk_frozen BK224.out 1; have hfz58_2 := blk_frozen BK224.out 2; have hfz58_3 := blk_frozen BK224.out 3; have hfz58_4 := blk_frozen BK224.out 4; have hfz58_5 := blk_frozen BK224.out 5; have hfz58_6 := blk_frozen BK224.out 6; have hfz58_7 := blk_frozen BK224.out 7))
        refine bodyPost_ret (results_ctt rfl _ _ gb224 23 #[.int .i64 0, .int .i64 0, .int .i64 0, .int .i64 0, .string ⟨#[]⟩, .string ⟨#[]⟩, .bool false, .int .i64 0] (0, 0) _ rfl (by (with_reducible repeat (first | refine blk_drewN ?_ _ | refine blk_drew ?_ | refine blk_alloc ?_ _)); refine blk_put (cs := #[.int .i64 0, .int .i64 0, .int .i64 0, .int .i64 0, .string ⟨#[]⟩, .string ⟨#[]⟩, .bool false, .int .i64 x225007_24]) ?_ 7 _ rfl; (with_reducible repeat (first | refine blk_drewN ?_ _ | refine blk_drew ?_ | refine blk_alloc ?_ _)); refine blk_put (cs := #[.int .i64 0, .int .i64 0, .int .i64 0, .int .i64 0, .string ⟨#[]⟩, .string ⟨#[]⟩, .bool x225006_24, .int .i64 x225007_24]) ?_ 6 _ rfl; (with_reducible repeat (first | refine blk_drewN ?_ _ | refine blk_drew ?_ | refine blk_alloc ?_ _)); refine blk_put (cs := #[.int .i64 0, .int .i64 0, .int .i64 0, .int .i64 0, .string ⟨#[]⟩, .string x225005_24, .bool x225006_24, .int .i64 x225007_24]) ?_ 5 _ rfl; (with_reducible repeat (first | refine blk_drewN ?_ _ | refine blk_drew ?_ | refine blk_alloc ?_ _)); refine blk_put (cs := #[.int .i64 0, .int .i64 0, .int .i64 0, .int .i64 0, .string x225004_24, .string x225005_24, .bool x225006_24, .int .i64 x225007_24]) ?_ 4 _ rfl; (with_reducible repeat (first | refine blk_drewN ?_ _ | refine blk_drew ?_ | refine blk_alloc ?_ _)); refine blk_put (cs := #[.int .i64 0, .int .i64 0, .int .i64 0, .int .i64 x225003_24, .string x225004_24, .string x225005_24, .bool x225006_24, .int .i64 x225007_24]) ?_ 3 _ rfl; (with_reducible repeat (first | refine blk_drewN ?_ _ | refine blk_drew ?_ | refine blk_alloc ?_ _)); refine blk_put (cs := #[.int .i64 0, .int .i64 0, .int .i64 x225002_24, .int .i64 x225003_24, .string x225004_24, .string x225005_24, .bool x225006_24, .int .i64 x225007_24]) ?_ 2 _ rfl; (with_reducible repeat (first | refine blk_drewN ?_ _ | refine blk_drew ?_ | refine blk_alloc ?_ _)); refine blk_put (cs := #[.int .i64 0, .int .i64 x225001_24, .int .i64 x225002_24, .int .i64 x225003_24, .string x225004_24, .string x225005_24, .bool x225006_24, .int .i64 x225007_24]) ?_ 1 _ rfl; (with_reducible repeat (first | refine blk_drewN ?_ _ | refine blk_drew ?_ | refine blk_alloc ?_ _)); refine blk_put (cs := #[.int .i64 x225000_24, .int .i64 x225001_24, .int .i64 x225002_24, .int .i64 x225003_24, .string x225004_24, .string x225005_24, .bool x225006_24, .int .i64 x225007_24]) ?_ 0 _ rfl; (with_reducible repeat (first | refine blk_drewN ?_ _ | refine blk_drew ?_ | refine blk_alloc ?_ _)); exact BK224.out) Tryd.underlying23 rfl (by kernel_rfl)) rfl ?_
        exact ⟨by first | rfl | (simp [errW_none, errW_some] <;> rfl) | (simp [*, errW_none, errW_some] <;> rfl), by repeat (first | (with_reducible first | exact HB.out | apply below_alloc | apply pw_below_drewN | apply below_drew1 | refine below_set ?_ GE223.out | refine below_set ?_ GE224.out) | exact HB.out)⟩
      ·rw [if_neg c41] at H
       have c41b0 : (t233 == 0) = false := beq_eq_false_iff_ne.mpr c41
       have c41b1 : (t233 != 0) = true := bne_iff_ne.mpr c41
       simp only [Option.some.injEq, Prod.mk.injEq] at H
       obtain ⟨rfl, rfl, rfl, rfl, rfl, rfl, rfl, rfl, rfl, rfl⟩ := H
       have hnb59 := NB223_224.out
       have hnc59 := NB224_223.out
       have hcz60_0 : wc.cell? ⟨gb223, 0, none⟩ = some (.int .i64 a0_0) := (blk_cell BK223.out 0).trans rfl
       have hcz60_1 : wc.cell? ⟨gb223, 1, none⟩ = some (.int .i64 a0_1) := (blk_cell BK223.out 1).trans rfl
       have hcz60_2 : wc.cell? ⟨gb223, 2, none⟩ = some (.int .i64 a0_2) := (blk_cell BK223.out 2).trans rfl
       have hcz60_3 : wc.cell? ⟨gb223, 3, none⟩ = some (.int .i64 a0_3) := (blk_cell BK223.out 3).trans rfl
       have hcz60_4 : wc.cell? ⟨gb223, 4, none⟩ = some (.string x224004_24) := (blk_cell BK223.out 4).trans rfl
       have hcz60_5 : wc.cell? ⟨gb223, 5, none⟩ = some (.string a0_5) := (blk_cell BK223.out 5).trans rfl
       have hcz60_6 : wc.cell? ⟨gb223, 6, none⟩ = some (.bool x224006_4) := (blk_cell BK223.out 6).trans rfl
       have hcz60_7 : wc.cell? ⟨gb223, 7, none⟩ = some (.int .i64 a0_7) := (blk_cell BK223.out 7).trans rfl
       have hfz60_0 := blk_frozen BK223.out 0
       have hfz60_1 := blk_frozen BK223.out 1
       have hfz60_2 := blk_frozen BK223.out 2
       have hfz60_3 := blk_frozen BK223.out 3
       have hfz60_4 := blk_frozen BK223.out 4
       have hfz60_5 := blk_frozen BK223.out 5
       have hfz60_6 := blk_frozen BK223.out 6
       have hfz60_7 := blk_frozen BK223.out 7
       go_wp2_with (first | ((with_reducible refine gate_callee (f := 41) rfl ?_); refine goesL_ (some 54) rfl rfl Tryd.func41 (by kernel_rfl) rfl #[.int .i64 a0_0, .int .i64 6] rfl (by (try simp only [List.map_toArray, List.map_cons, List.map_nil]); first | done | rfl | (simp only [List.length_drop, List.length_take]; rfl)) ?_; (with_reducible refine (rivuletref23_Has.calls a0_0 6 true _ A38.out).mono ?_); rintro e w61 ⟨rfl, hb⟩; refine ⟨_, rfl, ?_⟩; have n0_ := Aside0.mk (blk_below (g := gb223) (o := .cells #[.int .i64 a0_0, .int .i64 a0_1, .int .i64 a0_2, .int .i64 a0_3, .string x224004_24, .string a0_5, .bool x224006_4, .int .i64 a0_7] 23 (0, 0)) (by (with_reducible repeat (first | refine blk_drewN ?_ _ | refine blk_drew ?_ | refine blk_alloc ?_ _)); exact BK223.out) hb); have n1_ := Aside0.mk (blk_below (g := gb224) (o := .cells #[.int .i64 x225000_24, .int .i64 x225001_24, .int .i64 x225002_24, .int .i64 x225003_24, .string x225004_24, .string x225005_24, .bool x225006_24, .int .i64 x225007_24] 23 (0, 0)) (by (with_reducible repeat (first | refine blk_drewN ?_ _ | refine blk_drew ?_ | refine blk_alloc ?_ _)); exact BK224.out) hb); have n2_ := Aside0.mk (below_step (by repeat (first | (with_reducible first | exact HB.out | apply below_alloc | apply pw_below_drewN | apply below_drew1 | refine below_set ?_ GE223.out | refine below_set ?_ GE224.out) | exact HB.out)) hb); clear BK223; clear BK224; clear HB; have BK223 := n0_; have BK224 := n1_; have HB := n2_; clear n0_ n1_ n2_; (try clear hb); (try clear hb2); (try clear hk); (try clear hi)) | ((with_reducible refine gate_callee (f := 68) rfl ?_); refine goesL_ (some 58) rfl rfl Tryd.func68 (by kernel_rfl) rfl #[.string a1, .int .i64 x2_24] rfl (by (try simp only [List.map_toArray, List.map_cons, List.map_nil]); first | done | rfl | (simp only [List.length_drop, List.length_take]; rfl)) ?_; (with_reducible refine (rivuletref01_Cut.calls kj24 a1 x2_24 t231 t232 t233 _ A40.out).mono ?_); rintro e w62 ⟨rfl, hb⟩; refine ⟨_, rfl, ?_⟩; have n0_ := Aside0.mk (blk_below (g := gb223) (o := .cells #[.int .i64 a0_0, .int .i64 a0_1, .int .i64 a0_2, .int .i64 a0_3, .string x224004_24, .string a0_5, .bool x224006_4, .int .i64 a0_7] 23 (0, 0)) (by (with_reducible repeat (first | refine blk_drewN ?_ _ | refine blk_drew ?_ | refine blk_alloc ?_ _)); exact BK223.out) hb); have n1_ := Aside0.mk (blk_below (g := gb224) (o := .cells #[.int .i64 x225000_24, .int .i64 x225001_24, .int .i64 x225002_24, .int .i64 x225003_24, .string x225004_24, .string x225005_24, .bool x225006_24, .int .i64 x225007_24] 23 (0, 0)) (by (with_reducible repeat (first | refine blk_drewN ?_ _ | refine blk_drew ?_ | refine blk_alloc ?_ _)); exact BK224.out) hb); have n2_ := Aside0.mk (below_step (by repeat (first | (with_reducible first | exact HB.out | apply below_alloc | apply pw_below_drewN | apply below_drew1 | refine below_set ?_ GE223.out | refine below_set ?_ GE224.out) | exact HB.out)) hb); clear BK223; clear BK224; clear HB; have BK223 := n0_; have BK224 := n1_; have HB := n2_; clear n0_ n1_ n2_; (try clear hb); (try clear hb2); (try clear hk); (try clear hi); have hcz63_0 : w62.cell? ⟨gb224, 0, none⟩ = some (.int .i64 x225000_24) := (blk_cell BK224.out 0).trans rfl; have hcz63_1 : w62.cell? ⟨gb224, 1, none⟩ = some (.int .i64 x225001_24) := (blk_cell BK224.out 1).trans rfl; have hcz63_2 : w62.cell? ⟨gb224, 2, none⟩ = some (.int .i64 x225002_24) := (blk_cell BK224.out 2).trans rfl; have hcz63_3 : w62.cell? ⟨gb224, 3, none⟩ = some (.int .i64 x225003_24) := (blk_cell BK224.out 3).trans rfl; have hcz63_4 : w62.cell? ⟨gb224, 4, none⟩ = some (.string x225004_24) := (blk_cell BK224.out 4).trans rfl; have hcz63_5 : w62.cell? ⟨gb224, 5, none⟩ = some (.string x225005_24) := (blk_cell BK224.out 5).trans rfl; have hcz63_6 : w62.cell? ⟨gb224, 6, none⟩ = some (.bool x225006_24) := (blk_cell BK224.out 6).trans rfl; have hcz63_7 : w62.cell? ⟨gb224, 7, none⟩ = some (.int .i64 x225007_24) := (blk_cell BK224.out 7).trans rfl; have hfz63_0 := blk_frozen BK224.out 0; have hfz63_1 := blk_frozen BK224.out 1; have hfz63_2 := blk_frozen BK224.out 2; have hfz63_3 := blk_frozen BK224.out 3; have hfz63_4 := blk_frozen BK224.out 4; have hfz63_5 := blk_frozen BK224.out 5; have hfz63_6 := blk_frozen BK224.out 6; have hfz63_7 := blk_frozen BK224.out 7))
       refine bodyPost_ret (results_ctt rfl _ _ gb224 23 #[.int .i64 0, .int .i64 0, .int .i64 0, .int .i64 0, .string ⟨#[]⟩, .string ⟨#[]⟩, .bool false, .int .i64 0] (0, 0) _ rfl (by (with_reducible repeat (first | refine blk_drewN ?_ _ | refine blk_drew ?_ | refine blk_alloc ?_ _)); refine blk_put (cs := #[.int .i64 0, .int .i64 0, .int .i64 0, .int .i64 0, .string ⟨#[]⟩, .string ⟨#[]⟩, .bool false, .int .i64 x225007_24]) ?_ 7 _ rfl; (with_reducible repeat (first | refine blk_drewN ?_ _ | refine blk_drew ?_ | refine blk_alloc ?_ _)); refine blk_put (cs := #[.int .i64 0, .int .i64 0, .int .i64 0, .int .i64 0, .string ⟨#[]⟩, .string ⟨#[]⟩, .bool x225006_24, .int .i64 x225007_24]) ?_ 6 _ rfl; (with_reducible repeat (first | refine blk_drewN ?_ _ | refine blk_drew ?_ | refine blk_alloc ?_ _)); refine blk_put (cs := #[.int .i64 0, .int .i64 0, .int .i64 0, .int .i64 0, .string ⟨#[]⟩, .string x225005_24, .bool x225006_24, .int .i64 x225007_24]) ?_ 5 _ rfl; (with_reducible repeat (first | refine blk_drewN ?_ _ | refine blk_drew ?_ | refine blk_alloc ?_ _)); refine blk_put (cs := #[.int .i64 0, .int .i64 0, .int .i64 0, .int .i64 0, .string x225004_24, .string x225005_24, .bool x225006_24, .int .i64 x225007_24]) ?_ 4 _ rfl; (with_reducible repeat (first | refine blk_drewN ?_ _ | refine blk_drew ?_ | refine blk_alloc ?_ _)); refine blk_put (cs := #[.int .i64 0, .int .i64 0, .int .i64 0, .int .i64 x225003_24, .string x225004_24, .string x225005_24, .bool x225006_24, .int .i64 x225007_24]) ?_ 3 _ rfl; (with_reducible repeat (first | refine blk_drewN ?_ _ | refine blk_drew ?_ | refine blk_alloc ?_ _)); refine blk_put (cs := #[.int .i64 0, .int .i64 0, .int .i64 x225002_24, .int .i64 x225003_24, .string x225004_24, .string x225005_24, .bool x225006_24, .int .i64 x225007_24]) ?_ 2 _ rfl; (with_reducible repeat (first | refine blk_drewN ?_ _ | refine blk_drew ?_ | refine blk_alloc ?_ _)); refine blk_put (cs := #[.int .i64 0, .int .i64 x225001_24, .int .i64 x225002_24, .int .i64 x225003_24, .string x225004_24, .string x225005_24, .bool x225006_24, .int .i64 x225007_24]) ?_ 1 _ rfl; (with_reducible repeat (first | refine blk_drewN ?_ _ | refine blk_drew ?_ | refine blk_alloc ?_ _)); refine blk_put (cs := #[.int .i64 x225000_24, .int .i64 x225001_24, .int .i64 x225002_24, .int .i64 x225003_24, .string x225004_24, .string x225005_24, .bool x225006_24, .int .i64 x225007_24]) ?_ 0 _ rfl; (with_reducible repeat (first | refine blk_drewN ?_ _ | refine blk_drew ?_ | refine blk_alloc ?_ _)); exact BK224.out) Tryd.underlying23 rfl (by kernel_rfl)) rfl ?_
       exact ⟨by first | rfl | (simp [errW_none, errW_some] <;> rfl) | (simp [*, errW_none, errW_some] <;> rfl), by repeat (first | (with_reducible first | exact HB.out | apply below_alloc | apply pw_below_drewN | apply below_drew1 | refine below_set ?_ GE223.out | refine below_set ?_ GE224.out) | exact HB.out)⟩
     ·replace c39 := Bool.eq_false_iff.mpr c39
      subst c39
      have H1 : ((rivuletref23_Right.f kj24 a0_0 a0_1 a0_2 a0_3 x224004_24 a0_5 x224006_4 a0_7).bind fun t235 => (if t235 = true then (some (a0_0, a0_1, a0_2, a0_3, x224004_24, a0_5, x224006_4, a0_7, x2_24, 0)) else (some (0, 0, 0, 0, (⟨#[]⟩ : ByteArray), (⟨#[]⟩ : ByteArray), false, 0, 0, 4)))) = some (r1, r2, r3, r4, r5, r6, r7, r8, r9, r10) := by rw [if_neg (show ¬ (false = true) by decide)] at H; exact H
      clear H
      have H := H1
      clear H1
      replace H := Option.bind_eq_some_iff.mp H
      obtain ⟨t235, A640, H⟩ := H
      replace H : (if t235 = true then (some (a0_0, a0_1, a0_2, a0_3, x224004_24, a0_5, x224006_4, a0_7, x2_24, 0)) else (some (0, 0, 0, 0, (⟨#[]⟩ : ByteArray), (⟨#[]⟩ : ByteArray), false, 0, 0, 4))) = some (r1, r2, r3, r4, r5, r6, r7, r8, r9, r10) := H
      have A64 := Aside0.mk A640
      clear A640
      by_cases c65 : t235 = true
      ·subst c65
       have H1 : (some (a0_0, a0_1, a0_2, a0_3, x224004_24, a0_5, x224006_4, a0_7, x2_24, 0)) = some (r1, r2, r3, r4, r5, r6, r7, r8, r9, r10) := by rw [if_pos rfl] at H; exact H
       clear H
       have H := H1
       clear H1
       simp only [Option.some.injEq, Prod.mk.injEq] at H
       obtain ⟨rfl, rfl, rfl, rfl, rfl, rfl, rfl, rfl, rfl, rfl⟩ := H
       have hnb66 := NB223_224.out
       have hnc66 := NB224_223.out
       have hcz67_0 : wc.cell? ⟨gb223, 0, none⟩ = some (.int .i64 a0_0) := (blk_cell BK223.out 0).trans rfl
       have hcz67_1 : wc.cell? ⟨gb223, 1, none⟩ = some (.int .i64 a0_1) := (blk_cell BK223.out 1).trans rfl
       have hcz67_2 : wc.cell? ⟨gb223, 2, none⟩ = some (.int .i64 a0_2) := (blk_cell BK223.out 2).trans rfl
       have hcz67_3 : wc.cell? ⟨gb223, 3, none⟩ = some (.int .i64 a0_3) := (blk_cell BK223.out 3).trans rfl
       have hcz67_4 : wc.cell? ⟨gb223, 4, none⟩ = some (.string x224004_24) := (blk_cell BK223.out 4).trans rfl
       have hcz67_5 : wc.cell? ⟨gb223, 5, none⟩ = some (.string a0_5) := (blk_cell BK223.out 5).trans rfl
       have hcz67_6 : wc.cell? ⟨gb223, 6, none⟩ = some (.bool x224006_4) := (blk_cell BK223.out 6).trans rfl
       have hcz67_7 : wc.cell? ⟨gb223, 7, none⟩ = some (.int .i64 a0_7) := (blk_cell BK223.out 7).trans rfl
       have hfz67_0 := blk_frozen BK223.out 0
       have hfz67_1 := blk_frozen BK223.out 1
       have hfz67_2 := blk_frozen BK223.out 2
       have hfz67_3 := blk_frozen BK223.out 3
       have hfz67_4 := blk_frozen BK223.out 4
       have hfz67_5 := blk_frozen BK223.out 5
       have hfz67_6 := blk_frozen BK223.out 6
       have hfz67_7 := blk_frozen BK223.out 7
       go_wp2_with (first | ((with_reducible refine gate_callee (f := 41) rfl ?_); refine goesL_ (some 54) rfl rfl Tryd.func41 (by kernel_rfl) rfl #[.int .i64 a0_0, .int .i64 6] rfl (by (try simp only [List.map_toArray, List.map_cons, List.map_nil]); first | done | rfl | (simp only [List.length_drop, List.length_take]; rfl)) ?_; (with_reducible refine (rivuletref23_Has.calls a0_0 6 false _ A38.out).mono ?_); rintro e w68 ⟨rfl, hb⟩; refine ⟨_, rfl, ?_⟩; have n0_ := Aside0.mk (blk_below (g := gb223) (o := .cells #[.int .i64 a0_0, .int .i64 a0_1, .int .i64 a0_2, .int .i64 a0_3, .string x224004_24, .string a0_5, .bool x224006_4, .int .i64 a0_7] 23 (0, 0)) (by (with_reducible repeat (first | refine blk_drewN ?_ _ | refine blk_drew ?_ | refine blk_alloc ?_ _)); exact BK223.out) hb); have n1_ := Aside0.mk (blk_below (g := gb224) (o := .cells #[.int .i64 x225000_24, .int .i64 x225001_24, .int .i64 x225002_24, .int .i64 x225003_24, .string x225004_24, .string x225005_24, .bool x225006_24, .int .i64 x225007_24] 23 (0, 0)) (by (with_reducible repeat (first | refine blk_drewN ?_ _ | refine blk_drew ?_ | refine blk_alloc ?_ _)); exact BK224.out) hb); have n2_ := Aside0.mk (below_step (by repeat (first | (with_reducible first | exact HB.out | apply below_alloc | apply pw_below_drewN | apply below_drew1 | refine below_set ?_ GE223.out | refine below_set ?_ GE224.out) | exact HB.out)) hb); clear BK223; clear BK224; clear HB; have BK223 := n0_; have BK224 := n1_; have HB := n2_; clear n0_ n1_ n2_; (try clear hb); (try clear hb2); (try clear hk); (try clear hi); have hcz69_0 : w68.cell? ⟨gb223, 0, none⟩ = some (.int .i64 a0_0) := (blk_cell BK223.out 0).trans rfl; have hcz69_1 : w68.cell? ⟨gb223, 1, none⟩ = some (.int .i64 a0_1) := (blk_cell BK223.out 1).trans rfl; have hcz69_2 : w68.cell? ⟨gb223, 2, none⟩ = some (.int .i64 a0_2) := (blk_cell BK223.out 2).trans rfl; have hcz69_3 : w68.cell? ⟨gb223, 3, none⟩ = some (.int .i64 a0_3) := (blk_cell BK223.out 3).trans rfl; have hcz69_4 : w68.cell? ⟨gb223, 4, none⟩ = some (.string x224004_24) := (blk_cell BK223.out 4).trans rfl; have hcz69_5 : w68.cell? ⟨gb223, 5, none⟩ = some (.string a0_5) := (blk_cell BK223.out 5).trans rfl; have hcz69_6 : w68.cell? ⟨gb223, 6, none⟩ = some (.bool x224006_4) := (blk_cell BK223.out 6).trans rfl; have hcz69_7 : w68.cell? ⟨gb223, 7, none⟩ = some (.int .i64 a0_7) := (blk_cell BK223.out 7).trans rfl; have hfz69_0 := blk_frozen BK223.out 0; have hfz69_1 := blk_frozen BK223.out 1; have hfz69_2 := blk_frozen BK223.out 2; have hfz69_3 := blk_frozen BK223.out 3; have hfz69_4 := blk_frozen BK223.out 4; have hfz69_5 := blk_frozen BK223.out 5; have hfz69_6 := blk_frozen BK223.out 6; have hfz69_7 := blk_frozen BK223.out 7) | ((with_reducible refine gate_callee (f := 12) rfl ?_); refine goesL_ (some 70) rfl rfl Tryd.func12 (by kernel_rfl) rfl #[.agg #[.int .i64 a0_0, .int .i64 a0_1, .int .i64 a0_2, .int .i64 a0_3, .string x224004_24, .string a0_5, .bool x224006_4, .int .i64 a0_7]] rfl (by (try simp only [List.map_toArray, List.map_cons, List.map_nil]); first | done | rfl | (simp only [List.length_drop, List.length_take]; rfl)) ?_; (with_reducible refine (rivuletref23_Right.calls kj24 a0_0 a0_1 a0_2 a0_3 x224004_24 a0_5 x224006_4 a0_7 true _ A64.out).mono ?_); rintro e w70 ⟨rfl, hb⟩; refine ⟨_, rfl, ?_⟩; have n0_ := Aside0.mk (blk_below (g := gb223) (o := .cells #[.int .i64 a0_0, .int .i64 a0_1, .int .i64 a0_2, .int .i64 a0_3, .string x224004_24, .string a0_5, .bool x224006_4, .int .i64 a0_7] 23 (0, 0)) (by (with_reducible repeat (first | refine blk_drewN ?_ _ | refine blk_drew ?_ | refine blk_alloc ?_ _)); exact BK223.out) hb); have n1_ := Aside0.mk (blk_below (g := gb224) (o := .cells #[.int .i64 x225000_24, .int .i64 x225001_24, .int .i64 x225002_24, .int .i64 x225003_24, .string x225004_24, .string x225005_24, .bool x225006_24, .int .i64 x225007_24] 23 (0, 0)) (by (with_reducible repeat (first | refine blk_drewN ?_ _ | refine blk_drew ?_ | refine blk_alloc ?_ _)); exact BK224.out) hb); have n2_ := Aside0.mk (below_step (by repeat (first | (with_reducible first | exact HB.out | apply below_alloc | apply pw_below_drewN | apply below_drew1 | refine below_set ?_ GE223.out | refine below_set ?_ GE224.out) | exact HB.out)) hb); clear BK223; clear BK224; clear HB; have BK223 := n0_; have BK224 := n1_; have HB := n2_; clear n0_ n1_ n2_; (try clear hb); (try clear hb2); (try clear hk); (try clear hi); have hcz71_0 : w70.cell? ⟨gb223, 0, none⟩ = some (.int .i64 a0_0) := (blk_cell BK223.out 0).trans rfl; have hcz71_1 : w70.cell? ⟨gb223, 1, none⟩ = some (.int .i64 a0_1) := (blk_cell BK223.out 1).trans rfl; have hcz71_2 : w70.cell? ⟨gb223, 2, none⟩ = some (.int .i64 a0_2) := (blk_cell BK223.out 2).trans rfl; have hcz71_3 : w70.cell? ⟨gb223, 3, none⟩ = some (.int .i64 a0_3) := (blk_cell BK223.out 3).trans rfl; have hcz71_4 : w70.cell? ⟨gb223, 4, none⟩ = some (.string x224004_24) := (blk_cell BK223.out 4).trans rfl; have hcz71_5 : w70.cell? ⟨gb223, 5, none⟩ = some (.string a0_5) := (blk_cell BK223.out 5).trans rfl; have hcz71_6 : w70.cell? ⟨gb223, 6, none⟩ = some (.bool x224006_4) := (blk_cell BK223.out 6).trans rfl; have hcz71_7 : w70.cell? ⟨gb223, 7, none⟩ = some (.int .i64 a0_7) := (blk_cell BK223.out 7).trans rfl; have hfz71_0 := blk_frozen BK223.out 0; have hfz71_1 := blk_frozen BK223.out 1; have hfz71_2 := blk_frozen BK223.out 2; have hfz71_3 := blk_frozen BK223.out 3; have hfz71_4 := blk_frozen BK223.out 4; have hfz71_5 := blk_frozen BK223.out 5; have hfz71_6 := blk_frozen BK223.out 6; have hfz71_7 := blk_frozen BK223.out 7; have hcz72_0 : w70.cell? ⟨gb224, 0, none⟩ = some (.int .i64 x225000_24) := (blk_cell BK224.out 0).trans rfl; have hcz72_1 : w70.cell? ⟨gb224, 1, none⟩ = some (.int .i64 x225001_24) := (blk_cell BK224.out 1).trans rfl; have hcz72_2 : w70.cell? ⟨gb224, 2, none⟩ = some (.int .i64 x225002_24) := (blk_cell BK224.out 2).trans rfl; have hcz72_3 : w70.cell? ⟨gb224, 3, none⟩ = some (.int .i64 x225003_24) := (blk_cell BK224.out 3).trans rfl; have hcz72_4 : w70.cell? ⟨gb224, 4, none⟩ = some (.string x225004_24) := (blk_cell BK224.out 4).trans rfl; have hcz72_5 : w70.cell? ⟨gb224, 5, none⟩ = some (.string x225005_24) := (blk_cell BK224.out 5).trans rfl; have hcz72_6 : w70.cell? ⟨gb224, 6, none⟩ = some (.bool x225006_24) := (blk_cell BK224.out 6).trans rfl; have hcz72_7 : w70.cell? ⟨gb224, 7, none⟩ = some (.int .i64 x225007_24) := (blk_cell BK224.out 7).trans rfl; have hfz72_0 := blk_frozen BK224.out 0; have hfz72_1 := blk_frozen BK224.out 1; have hfz72_2 := blk_frozen BK224.out 2; have hfz72_3 := blk_frozen BK224.out 3; have hfz72_4 := blk_frozen BK224.out 4; have hfz72_5 := blk_frozen BK224.out 5; have hfz72_6 := blk_frozen BK224.out 6; have hfz72_7 := blk_frozen BK224.out 7))
       refine bodyPost_ret (results_ctt rfl _ _ gb224 23 #[.int .i64 a0_0, .int .i64 a0_1, .int .i64 a0_2, .int .i64 a0_3, .string x224004_24, .string a0_5, .bool x224006_4, .int .i64 a0_7] (0, 0) _ rfl (by (with_reducible repeat (first | refine blk_drewN ?_ _ | refine blk_drew ?_ | refine blk_alloc ?_ _)); refine blk_put (cs := #[.int .i64 a0_0, .int .i64 a0_1, .int .i64 a0_2, .int .i64 a0_3, .string x224004_24, .string a0_5, .bool x224006_4, .int .i64 x225007_24]) ?_ 7 _ rfl; (with_reducible repeat (first | refine blk_drewN ?_ _ | refine blk_drew ?_ | refine blk_alloc ?_ _)); refine blk_put (cs := #[.int .i64 a0_0, .int .i64 a0_1, .int .i64 a0_2, .int .i64 a0_3, .string x224004_24, .string a0_5, .bool x225006_24, .int .i64 x225007_24]) ?_ 6 _ rfl; (with_reducible repeat (first | refine blk_drewN ?_ _ | refine blk_drew ?_ | refine blk_alloc ?_ _)); refine blk_put (cs := #[.int .i64 a0_0, .int .i64 a0_1, .int .i64 a0_2, .int .i64 a0_3, .string x224004_24, .string x225005_24, .bool x225006_24, .int .i64 x225007_24]) ?_ 5 _ rfl; (with_reducible repeat (first | refine blk_drewN ?_ _ | refine blk_drew ?_ | refine blk_alloc ?_ _)); refine blk_put (cs := #[.int .i64 a0_0, .int .i64 a0_1, .int .i64 a0_2, .int .i64 a0_3, .string x225004_24, .string x225005_24, .bool x225006_24, .int .i64 x225007_24]) ?_ 4 _ rfl; (with_reducible repeat (first | refine blk_drewN ?_ _ | refine blk_drew ?_ | refine blk_alloc ?_ _)); refine blk_put (cs := #[.int .i64 a0_0, .int .i64 a0_1, .int .i64 a0_2, .int .i64 x225003_24, .string x225004_24, .string x225005_24, .bool x225006_24, .int .i64 x225007_24]) ?_ 3 _ rfl; (with_reducible repeat (first | refine blk_drewN ?_ _ | refine blk_drew ?_ | refine blk_alloc ?_ _)); refine blk_put (cs := #[.int .i64 a0_0, .int .i64 a0_1, .int .i64 x225002_24, .int .i64 x225003_24, .string x225004_24, .string x225005_24, .bool x225006_24, .int .i64 x225007_24]) ?_ 2 _ rfl; (with_reducible repeat (first | refine blk_drewN ?_ _ | refine blk_drew ?_ | refine blk_alloc ?_ _)); refine blk_put (cs := #[.int .i64 a0_0, .int .i64 x225001_24, .int .i64 x225002_24, .int .i64 x225003_24, .string x225004_24, .string x225005_24, .bool x225006_24, .int .i64 x225007_24]) ?_ 1 _ rfl; (with_reducible repeat (first | refine blk_drewN ?_ _ | refine blk_drew ?_ | refine blk_alloc ?_ _)); refine blk_put (cs := #[.int .i64 x225000_24, .int .i64 x225001_24, .int .i64 x225002_24, .int .i64 x225003_24, .string x225004_24, .string x225005_24, .bool x225006_24, .int .i64 x225007_24]) ?_ 0 _ rfl; (with_reducible repeat (first | refine blk_drewN ?_ _ | refine blk_drew ?_ | refine blk_alloc ?_ _)); exact BK224.out) Tryd.underlying23 rfl (by kernel_rfl)) rfl ?_
       exact ⟨by first | rfl | (simp [errW_none, errW_some] <;> rfl) | (simp [*, errW_none, errW_some] <;> rfl), by repeat (first | (with_reducible first | exact HB.out | apply below_alloc | apply pw_below_drewN | apply below_drew1 | refine below_set ?_ GE223.out | refine below_set ?_ GE224.out) | exact HB.out)⟩
      ·replace c65 := Bool.eq_false_iff.mpr c65
       subst c65
       have H1 : (some (0, 0, 0, 0, (⟨#[]⟩ : ByteArray), (⟨#[]⟩ : ByteArray), false, 0, 0, 4)) = some (r1, r2, r3, r4, r5, r6, r7, r8, r9, r10) := by rw [if_neg (show ¬ (false = true) by decide)] at H; exact H
       clear H
       have H := H1
       clear H1
       simp only [Option.some.injEq, Prod.mk.injEq] at H
       obtain ⟨rfl, rfl, rfl, rfl, rfl, rfl, rfl, rfl, rfl, rfl⟩ := H
       have hnb73 := NB223_224.out
       have hnc73 := NB224_223.out
       have hcz74_0 : wc.cell? ⟨gb223, 0, none⟩ = some (.int .i64 a0_0) := (blk_cell BK223.out 0).trans rfl
       have hcz74_1 : wc.cell? ⟨gb223, 1, none⟩ = some (.int .i64 a0_1) := (blk_cell BK223.out 1).trans rfl
       have hcz74_2 : wc.cell? ⟨gb223, 2, none⟩ = some (.int .i64 a0_2) := (blk_cell BK223.out 2).trans rfl
       have hcz74_3 : wc.cell? ⟨gb223, 3, none⟩ = some (.int .i64 a0_3) := (blk_cell BK223.out 3).trans rfl
       have hcz74_4 : wc.cell? ⟨gb223, 4, none⟩ = some (.string x224004_24) := (blk_cell BK223.out 4).trans rfl
       have hcz74_5 : wc.cell? ⟨gb223, 5, none⟩ = some (.string a0_5) := (blk_cell BK223.out 5).trans rfl
       have hcz74_6 : wc.cell? ⟨gb223, 6, none⟩ = some (.bool x224006_4) := (blk_cell BK223.out 6).trans rfl
       have hcz74_7 : wc.cell? ⟨gb223, 7, none⟩ = some (.int .i64 a0_7) := (blk_cell BK223.out 7).trans rfl
       have hfz74_0 := blk_frozen BK223.out 0
       have hfz74_1 := blk_frozen BK223.out 1
       have hfz74_2 := blk_frozen BK223.out 2
       have hfz74_3 := blk_frozen BK223.out 3
       have hfz74_4 := blk_frozen BK223.out 4
       have hfz74_5 := blk_frozen BK223.out 5
       have hfz74_6 := blk_frozen BK223.out 6
       have hfz74_7 := blk_frozen BK223.out 7
       go_wp2_with (first | ((with_reducible refine gate_callee (f := 41) rfl ?_); refine goesL_ (some 54) rfl rfl Tryd.func41 (by kernel_rfl) rfl #[.int .i64 a0_0, .int .i64 6] rfl (by (try simp only [List.map_toArray, List.map_cons, List.map_nil]); first | done | rfl | (simp only [List.length_drop, List.length_take]; rfl)) ?_; (with_reducible refine (rivuletref23_Has.calls a0_0 6 false _ A38.out).mono ?_); rintro e w75 ⟨rfl, hb⟩; refine ⟨_, rfl, ?_⟩; have n0_ := Aside0.mk (blk_below (g := gb223) (o := .cells #[.int .i64 a0_0, .int .i64 a0_1, .int .i64 a0_2, .int .i64 a0_3, .string x224004_24, .string a0_5, .bool x224006_4, .int .i64 a0_7] 23 (0, 0)) (by (with_reducible repeat (first | refine blk_drewN ?_ _ | refine blk_drew ?_ | refine blk_alloc ?_ _)); exact BK223.out) hb); have n1_ := Aside0.mk (blk_below (g := gb224) (o := .cells #[.int .i64 x225000_24, .int .i64 x225001_24, .int .i64 x225002_24, .int .i64 x225003_24, .string x225004_24, .string x225005_24, .bool x225006_24, .int .i64 x225007_24] 23 (0, 0)) (by (with_reducible repeat (first | refine blk_drewN ?_ _ | refine blk_drew ?_ | refine blk_alloc ?_ _)); exact BK224.out) hb); have n2_ := Aside0.mk (below_step (by repeat (first | (with_reducible first | exact HB.out | apply below_alloc | apply pw_below_drewN | apply below_drew1 | refine below_set ?_ GE223.out | refine below_set ?_ GE224.out) | exact HB.out)) hb); clear BK223; clear BK224; clear HB; have BK223 := n0_; have BK224 := n1_; have HB := n2_; clear n0_ n1_ n2_; (try clear hb); (try clear hb2); (try clear hk); (try clear hi); have hcz76_0 : w75.cell? ⟨gb223, 0, none⟩ = some (.int .i64 a0_0) := (blk_cell BK223.out 0).trans rfl; have hcz76_1 : w75.cell? ⟨gb223, 1, none⟩ = some (.int .i64 a0_1) := (blk_cell BK223.out 1).trans rfl; have hcz76_2 : w75.cell? ⟨gb223, 2, none⟩ = some (.int .i64 a0_2) := (blk_cell BK223.out 2).trans rfl; have hcz76_3 : w75.cell? ⟨gb223, 3, none⟩ = some (.int .i64 a0_3) := (blk_cell BK223.out 3).trans rfl; have hcz76_4 : w75.cell? ⟨gb223, 4, none⟩ = some (.string x224004_24) := (blk_cell BK223.out 4).trans rfl; have hcz76_5 : w75.cell? ⟨gb223, 5, none⟩ = some (.string a0_5) := (blk_cell BK223.out 5).trans rfl; have hcz76_6 : w75.cell? ⟨gb223, 6, none⟩ = some (.bool x224006_4) := (blk_cell BK223.out 6).trans rfl; have hcz76_7 : w75.cell? ⟨gb223, 7, none⟩ = some (.int .i64 a0_7) := (blk_cell BK223.out 7).trans rfl; have hfz76_0 := blk_frozen BK223.out 0; have hfz76_1 := blk_frozen BK223.out 1; have hfz76_2 := blk_frozen BK223.out 2; have hfz76_3 := blk_frozen BK223.out 3; have hfz76_4 := blk_frozen BK223.out 4; have hfz76_5 := blk_frozen BK223.out 5; have hfz76_6 := blk_frozen BK223.out 6; have hfz76_7 := blk_frozen BK223.out 7) | ((with_reducible refine gate_callee (f := 12) rfl ?_); refine goesL_ (some 70) rfl rfl Tryd.func12 (by kernel_rfl) rfl #[.agg #[.int .i64 a0_0, .int .i64 a0_1, .int .i64 a0_2, .int .i64 a0_3, .string x224004_24, .string a0_5, .bool x224006_4, .int .i64 a0_7]] rfl (by (try simp only [List.map_toArray, List.map_cons, List.map_nil]); first | done | rfl | (simp only [List.length_drop, List.length_take]; rfl)) ?_; (with_reducible refine (rivuletref23_Right.calls kj24 a0_0 a0_1 a0_2 a0_3 x224004_24 a0_5 x224006_4 a0_7 false _ A64.out).mono ?_); rintro e w77 ⟨rfl, hb⟩; refine ⟨_, rfl, ?_⟩; have n0_ := Aside0.mk (blk_below (g := gb223) (o := .cells #[.int .i64 a0_0, .int .i64 a0_1, .int .i64 a0_2, .int .i64 a0_3, .string x224004_24, .string a0_5, .bool x224006_4, .int .i64 a0_7] 23 (0, 0)) (by (with_reducible repeat (first | refine blk_drewN ?_ _ | refine blk_drew ?_ | refine blk_alloc ?_ _)); exact BK223.out) hb); have n1_ := Aside0.mk (blk_below (g := gb224) (o := .cells #[.int .i64 x225000_24, .int .i64 x225001_24, .int .i64 x225002_24, .int .i64 x225003_24, .string x225004_24, .string x225005_24, .bool x225006_24, .int .i64 x225007_24] 23 (0, 0)) (by (with_reducible repeat (first | refine blk_drewN ?_ _ | refine blk_drew ?_ | refine blk_alloc ?_ _)); exact BK224.out) hb); have n2_ := Aside0.mk (below_step (by repeat (first | (with_reducible first | exact HB.out | apply below_alloc | apply pw_below_drewN | apply below_drew1 | refine below_set ?_ GE223.out | refine below_set ?_ GE224.out) | exact HB.out)) hb); clear BK223; clear BK224; clear HB; have BK223 := n0_; have BK224 := n1_; have HB := n2_; clear n0_ n1_ n2_; (try clear hb); (try clear hb2); (try clear hk); (try clear hi); have hcz78_0 : w77.cell? ⟨gb224, 0, none⟩ = some (.int .i64 x225000_24) := (blk_cell BK224.out 0).trans rfl; have hcz78_1 : w77.cell? ⟨gb224, 1, none⟩ = some (.int .i64 x225001_24) := (blk_cell BK224.out 1).trans rfl; have hcz78_2 : w77.cell? ⟨gb224, 2, none⟩ = some (.int .i64 x225002_24) := (blk_cell BK224.out 2).trans rfl; have hcz78_3 : w77.cell? ⟨gb224, 3, none⟩ = some (.int .i64 x225003_24) := (blk_cell BK224.out 3).trans rfl; have hcz78_4 : w77.cell? ⟨gb224, 4, none⟩ = some (.string x225004_24) := (blk_cell BK224.out 4).trans rfl; have hcz78_5 : w77.cell? ⟨gb224, 5, none⟩ = some (.string x225005_24) := (blk_cell BK224.out 5).trans rfl; have hcz78_6 : w77.cell? ⟨gb224, 6, none⟩ = some (.bool x225006_24) := (blk_cell BK224.out 6).trans rfl; have hcz78_7 : w77.cell? ⟨gb224, 7, none⟩ = some (.int .i64 x225007_24) := (blk_cell BK224.out 7).trans rfl; have hfz78_0 := blk_frozen BK224.out 0; have hfz78_1 := blk_frozen BK224.out 1; have hfz78_2 := blk_frozen BK224.out 2; have hfz78_3 := blk_frozen BK224.out 3; have hfz78_4 := blk_frozen BK224.out 4; have hfz78_5 := blk_frozen BK224.out 5; have hfz78_6 := blk_frozen BK224.out 6; have hfz78_7 := blk_frozen BK224.out 7))
       refine bodyPost_ret (results_ctt rfl _ _ gb224 23 #[.int .i64 0, .int .i64 0, .int .i64 0, .int .i64 0, .string ⟨#[]⟩, .string ⟨#[]⟩, .bool false, .int .i64 0] (0, 0) _ rfl (by (with_reducible repeat (first | refine blk_drewN ?_ _ | refine blk_drew ?_ | refine blk_alloc ?_ _)); refine blk_put (cs := #[.int .i64 0, .int .i64 0, .int .i64 0, .int .i64 0, .string ⟨#[]⟩, .string ⟨#[]⟩, .bool false, .int .i64 x225007_24]) ?_ 7 _ rfl; (with_reducible repeat (first | refine blk_drewN ?_ _ | refine blk_drew ?_ | refine blk_alloc ?_ _)); refine blk_put (cs := #[.int .i64 0, .int .i64 0, .int .i64 0, .int .i64 0, .string ⟨#[]⟩, .string ⟨#[]⟩, .bool x225006_24, .int .i64 x225007_24]) ?_ 6 _ rfl; (with_reducible repeat (first | refine blk_drewN ?_ _ | refine blk_drew ?_ | refine blk_alloc ?_ _)); refine blk_put (cs := #[.int .i64 0, .int .i64 0, .int .i64 0, .int .i64 0, .string ⟨#[]⟩, .string x225005_24, .bool x225006_24, .int .i64 x225007_24]) ?_ 5 _ rfl; (with_reducible repeat (first | refine blk_drewN ?_ _ | refine blk_drew ?_ | refine blk_alloc ?_ _)); refine blk_put (cs := #[.int .i64 0, .int .i64 0, .int .i64 0, .int .i64 0, .string x225004_24, .string x225005_24, .bool x225006_24, .int .i64 x225007_24]) ?_ 4 _ rfl; (with_reducible repeat (first | refine blk_drewN ?_ _ | refine blk_drew ?_ | refine blk_alloc ?_ _)); refine blk_put (cs := #[.int .i64 0, .int .i64 0, .int .i64 0, .int .i64 x225003_24, .string x225004_24, .string x225005_24, .bool x225006_24, .int .i64 x225007_24]) ?_ 3 _ rfl; (with_reducible repeat (first | refine blk_drewN ?_ _ | refine blk_drew ?_ | refine blk_alloc ?_ _)); refine blk_put (cs := #[.int .i64 0, .int .i64 0, .int .i64 x225002_24, .int .i64 x225003_24, .string x225004_24, .string x225005_24, .bool x225006_24, .int .i64 x225007_24]) ?_ 2 _ rfl; (with_reducible repeat (first | refine blk_drewN ?_ _ | refine blk_drew ?_ | refine blk_alloc ?_ _)); refine blk_put (cs := #[.int .i64 0, .int .i64 x225001_24, .int .i64 x225002_24, .int .i64 x225003_24, .string x225004_24, .string x225005_24, .bool x225006_24, .int .i64 x225007_24]) ?_ 1 _ rfl; (with_reducible repeat (first | refine blk_drewN ?_ _ | refine blk_drew ?_ | refine blk_alloc ?_ _)); refine blk_put (cs := #[.int .i64 x225000_24, .int .i64 x225001_24, .int .i64 x225002_24, .int .i64 x225003_24, .string x225004_24, .string x225005_24, .bool x225006_24, .int .i64 x225007_24]) ?_ 0 _ rfl; (with_reducible repeat (first | refine blk_drewN ?_ _ | refine blk_drew ?_ | refine blk_alloc ?_ _)); exact BK224.out) Tryd.underlying23 rfl (by kernel_rfl)) rfl ?_
       exact ⟨by first | rfl | (simp [errW_none, errW_some] <;> rfl) | (simp [*, errW_none, errW_some] <;> rfl), by repeat (first | (with_reducible first | exact HB.out | apply below_alloc | apply pw_below_drewN | apply below_drew1 | refine below_set ?_ GE223.out | refine below_set ?_ GE224.out) | exact HB.out)⟩
end Go.Proofs.YtjjimkmbbifbjaaDoor.Pv
end
section
namespace Go.Proofs.YtjjimkmbbifbjaaDoor.Pv
open Go.RowKit Go.Proofs.YtjjimkmbbifbjaaDoorW.PrintWords Go.Proofs.YtjjimkmbbifbjaaDoorW.PrintLast Go.Proofs.YtjjimkmbbifbjaaDoorW.PrintMore
attribute [local go_sem] max2_int min2_int max_two min_two max_three min_three max_four min_four
set_option linter.unusedVariables false
set_option linter.unusedSimpArgs false
mutual
def rivuletref23_Get.j0 : Nat → ByteArray → Int → Bool → Option (Int × Int × Int × Int × ByteArray × ByteArray × Bool × Int × Int × Int)
 | 0, _, _, _ => none
 | k + 1, x0, x1, x21 => if x21 = true then (some (0, 0, 0, 0, (⟨#[]⟩ : ByteArray), (⟨#[]⟩ : ByteArray), false, 0, 0, 1)) else (if x1 = (x0.size : Int) then (some (0, 0, 0, 0, (⟨#[]⟩ : ByteArray), (⟨#[]⟩ : ByteArray), false, 0, 0, 3)) else (if 0 ≤ x1 then (if x1 < (x0.size : Int) then (if (bt x0 x1) > 10 then (some (0, 0, 0, 0, (⟨#[]⟩ : ByteArray), (⟨#[]⟩ : ByteArray), false, 0, 0, 6)) else (rivuletref23_Get.l0 k x0 (([0, 0, 0, 0] : List Int)) (wrap64 (x1 + 1)) 0 (wrap64 (bt x0 x1)) 0 0 0 ⟨#[]⟩ ⟨#[]⟩ false 0)) else (none)) else (none)))
def rivuletref23_Get.l0 : Nat → ByteArray → List Int → Int → Int → Int → Int → Int → Int → ByteArray → ByteArray → Bool → Int → Option (Int × Int × Int × Int × ByteArray × ByteArray × Bool × Int × Int × Int)
 | 0, _, _, _, _, _, _, _, _, _, _, _, _ => none
 | k + 1, x0, x8, x9, x10, x238000, x238001, x238002, x238003, x238004, x238005, x238006, x238007 => if x10 < 4 then ((rivuletref23_Has.f x238000 x10).bind fun t255 => (if t255 = true then ((rivuletref01_Get.f k x0 x9).bind fun bt256 => (if bt256.2.2 = 0 then (if bt256.1 > 1099511627776 then (if 0 ≤ x10 then (if x10 < (x8.length : Int) then (rivuletref23_Get.l0 k x0 (x8.set (x10 : Int).toNat 1099511627777) bt256.2.1 (wrap64 (x10 + 1)) x238000 x238001 x238002 x238003 x238004 x238005 x238006 x238007) else (none)) else (none)) else (if 0 ≤ x10 then (if x10 < (x8.length : Int) then (rivuletref23_Get.l0 k x0 (x8.set (x10 : Int).toNat (wrap64 (bt256.1))) bt256.2.1 (wrap64 (x10 + 1)) x238000 x238001 x238002 x238003 x238004 x238005 x238006 x238007) else (none)) else (none))) else (some (0, 0, 0, 0, (⟨#[]⟩ : ByteArray), (⟨#[]⟩ : ByteArray), false, 0, 0, bt256.2.2)))) else (rivuletref23_Get.l0 k x0 x8 x9 (wrap64 (x10 + 1)) x238000 x238001 x238002 x238003 x238004 x238005 x238006 x238007))) else (if 0 < (x8.length : Int) then (if 1 < (x8.length : Int) then (if 2 < (x8.length : Int) then (if 3 < (x8.length : Int) then ((rivuletref23_rest.f k x238000 (rd x8 0) (rd x8 1) (rd x8 2) x238004 x238005 x238006 (rd x8 3) x0 x9).bind fun bt245 => (some (bt245.1, bt245.2.1, bt245.2.2.1, bt245.2.2.2.1, bt245.2.2.2.2.1, bt245.2.2.2.2.2.1, bt245.2.2.2.2.2.2.1, bt245.2.2.2.2.2.2.2.1, bt245.2.2.2.2.2.2.2.2.1, bt245.2.2.2.2.2.2.2.2.2))) else (none)) else (none)) else (none)) else (none))
end
def rivuletref23_Get.f (k : Nat) (a0 : ByteArray) (a1 : Int) : Option (Int × Int × Int × Int × ByteArray × ByteArray × Bool × Int × Int × Int) := if a1 < 0 then (rivuletref23_Get.j0 k a0 a1 true) else (rivuletref23_Get.j0 k a0 a1 (decide (a1 > (a0.size : Int))))
set_option maxHeartbeats 8000000 in
set_option maxRecDepth 100000 in
theorem rivuletref23_Get.calls (k : Nat) (a0 : ByteArray) (a1 : Int) (r1 : Int) (r2 : Int) (r3 : Int) (r4 : Int) (r5 : ByteArray) (r6 : ByteArray) (r7 : Bool) (r8 : Int) (r9 : Int) (r10 : Int) (w : World) (h : rivuletref23_Get.f k a0 a1 = some (r1, r2, r3, r4, r5, r6, r7, r8, r9, r10)) :
  Calls Tryd.prog 23 #[.string a0, .int .i64 a1] w fun e w' => e = .returned (.tuple #[.agg #[.int .i64 r1, .int .i64 r2, .int .i64 r3, .int .i64 r4, .string r5, .string r6, .bool r7, .int .i64 r8], .int .i64 r9, .int .i64 r10]) ∧ Below w.heap.size w w' := by
 have hu23 := Tryd.underlying23
 have HB := Aside0.mk (Below.refl w.heap.size w)
 have H : (if a1 < 0 then (rivuletref23_Get.j0 k a0 a1 true) else (rivuletref23_Get.j0 k a0 a1 (decide (a1 > (a0.size : Int))))) = some (r1, r2, r3, r4, r5, r6, r7, r8, r9, r10) := h
 clear h
 have HC3 := Aside0.mk H
 clear H
 go_enter Tryd.func23, Tryd.ntmps23
 go_upto_region 1 with (first | ((with_reducible refine gate_dst (N := 4) rfl ?_); (try (refine gate_guard (by rfl) ?_; dsimp only)); refine box_event ?hg (N := 4) ?hd (cs := #[.int .i64 0, .int .i64 0, .int .i64 0, .int .i64 0, .string ⟨#[]⟩, .string ⟨#[]⟩, .bool false, .int .i64 0]) (t := 23) ?hr ?_; (case hd => rfl); (case hg => rfl); (case hr => first | (go_simp; done) | (go_simp; rfl)); intro gb236 hg w4 hbox hb; have n0_ := Aside0.mk (below_step (by repeat (first | (with_reducible first | exact HB.out | apply below_alloc | apply pw_below_drewN | apply below_drew1) | exact HB.out)) hb); have n1_ := Aside0.mk (hbox); have n2_ := Aside0.mk ((by rw [hg]; exact (below_size (by repeat (first | (with_reducible first | exact HB.out | apply below_alloc | apply pw_below_drewN | apply below_drew1) | exact HB.out))) : w.heap.size ≤ gb236)); have n3_ := Aside0.mk ((by rw [hg]; exact (below_size (by repeat (first | (with_reducible first | exact HB.out | apply below_alloc | apply pw_below_drewN | apply below_drew1) | exact HB.out))) : w.heap.size ≤ gb236)); clear HB; have HB := n0_; have BK236 := n1_; have GW236 := n2_; have GE236 := n3_; clear n0_ n1_ n2_ n3_; clear hb hbox hg))
 (try simp only [Act.put, List.setIfInBounds_toArray, List.set_cons_zero, List.set_cons_succ])
 go_cut [21] (fun v21 wc => ∃ (kq : Nat) (x21_2 : Bool), v21 = .bool x21_2 ∧ Aside0 (rivuletref23_Get.j0 kq a0 a1 x21_2 = some (r1, r2, r3, r4, r5, r6, r7, r8, r9, r10)) ∧ Aside0 (kq ≤ k) ∧ Aside0 (wc.heap[gb236]? = some (.cells #[.int .i64 0, .int .i64 0, .int .i64 0, .int .i64 0, .string ⟨#[]⟩, .string ⟨#[]⟩, .bool false, .int .i64 0] 23 (0, 0))) ∧ Aside0 (Below w.heap.size w wc))
 case first =>
  have H := HC3.out
  clear HC3
  by_cases c5 : a1 < 0
  ·rw [if_pos c5] at H
   have c5b0 : decide (a1 < 0) = true := decide_eq_true c5
   clear c5
   (first | rw [c5b0] | (simp only [i64_w, i32_w]; rw [c5b0]) | skip)
   have H' := Aside0.mk H
   clear H
   go_wp2
   go_meet
   case rel => exact ⟨_, (true), (by first | rfl | (simp; done) | (simp [*]; done)), H', ⟨by first | omega | exact Nat.le_refl _⟩, ⟨by (with_reducible repeat (first | refine blk_drewN ?_ _ | refine blk_drew ?_ | refine blk_alloc ?_ _)); exact BK236.out⟩, ⟨by repeat (first | (with_reducible first | exact HB.out | apply below_alloc | apply pw_below_drewN | apply below_drew1 | refine below_set ?_ GE236.out) | exact HB.out)⟩⟩
  ·rw [if_neg c5] at H
   have c5b0 : decide (a1 < 0) = false := decide_eq_false c5
   clear c5
   (first | rw [c5b0] | (simp only [i64_w, i32_w]; rw [c5b0]) | skip)
   have H' := Aside0.mk H
   clear H
   go_wp2
   go_meet
   case rel => exact ⟨_, (decide (a1 > (a0.size : Int))), (by first | rfl | (simp; done) | (simp [*]; done)), H', ⟨by first | omega | exact Nat.le_refl _⟩, ⟨by (with_reducible repeat (first | refine blk_drewN ?_ _ | refine blk_drew ?_ | refine blk_alloc ?_ _)); exact BK236.out⟩, ⟨by repeat (first | (with_reducible first | exact HB.out | apply below_alloc | apply pw_below_drewN | apply below_drew1 | refine below_set ?_ GE236.out) | exact HB.out)⟩⟩
 case rest =>
  clear HC3
  try clear c2
  try clear p2
  try clear c5
  try clear c5b0
  obtain ⟨kq, x21_2, rfl, HA, HJ2, BK236, HB⟩ := hcut
  cases kq with
  | zero => exact absurd HA.out (by simp [rivuletref23_Get.j0])
  | succ kj2 =>
   have H := HA.out
   clear HA
   simp only [rivuletref23_Get.j0] at H
   by_cases c6 : x21_2 = true
   ·subst c6
    have H1 : (some (0, 0, 0, 0, (⟨#[]⟩ : ByteArray), (⟨#[]⟩ : ByteArray), false, 0, 0, 1)) = some (r1, r2, r3, r4, r5, r6, r7, r8, r9, r10) := by rw [if_pos rfl] at H; exact H
    clear H
    have H := H1
    clear H1
    simp only [Option.some.injEq, Prod.mk.injEq] at H
    obtain ⟨rfl, rfl, rfl, rfl, rfl, rfl, rfl, rfl, rfl, rfl⟩ := H
    have hcz7_0 : wc.cell? ⟨gb236, 0, none⟩ = some (.int .i64 0) := (blk_cell BK236.out 0).trans rfl
    have hcz7_1 : wc.cell? ⟨gb236, 1, none⟩ = some (.int .i64 0) := (blk_cell BK236.out 1).trans rfl
    have hcz7_2 : wc.cell? ⟨gb236, 2, none⟩ = some (.int .i64 0) := (blk_cell BK236.out 2).trans rfl
    have hcz7_3 : wc.cell? ⟨gb236, 3, none⟩ = some (.int .i64 0) := (blk_cell BK236.out 3).trans rfl
    have hcz7_4 : wc.cell? ⟨gb236, 4, none⟩ = some (.string ⟨#[]⟩) := (blk_cell BK236.out 4).trans rfl
    have hcz7_5 : wc.cell? ⟨gb236, 5, none⟩ = some (.string ⟨#[]⟩) := (blk_cell BK236.out 5).trans rfl
    have hcz7_6 : wc.cell? ⟨gb236, 6, none⟩ = some (.bool false) := (blk_cell BK236.out 6).trans rfl
    have hcz7_7 : wc.cell? ⟨gb236, 7, none⟩ = some (.int .i64 0) := (blk_cell BK236.out 7).trans rfl
    have hfz7_0 := blk_frozen BK236.out 0
    have hfz7_1 := blk_frozen BK236.out 1
    have hfz7_2 := blk_frozen BK236.out 2
    have hfz7_3 := blk_frozen BK236.out 3
    have hfz7_4 := blk_frozen BK236.out 4
    have hfz7_5 := blk_frozen BK236.out 5
    have hfz7_6 := blk_frozen BK236.out 6
    have hfz7_7 := blk_frozen BK236.out 7
    go_wp2
    refine bodyPost_ret (results_ctt rfl _ _ gb236 23 #[.int .i64 0, .int .i64 0, .int .i64 0, .int .i64 0, .string ⟨#[]⟩, .string ⟨#[]⟩, .bool false, .int .i64 0] (0, 0) _ rfl (by (with_reducible repeat (first | refine blk_drewN ?_ _ | refine blk_drew ?_ | refine blk_alloc ?_ _)); refine blk_put (cs := #[.int .i64 0, .int .i64 0, .int .i64 0, .int .i64 0, .string ⟨#[]⟩, .string ⟨#[]⟩, .bool false, .int .i64 0]) ?_ 7 _ rfl; (with_reducible repeat (first | refine blk_drewN ?_ _ | refine blk_drew ?_ | refine blk_alloc ?_ _)); refine blk_put (cs := #[.int .i64 0, .int .i64 0, .int .i64 0, .int .i64 0, .string ⟨#[]⟩, .string ⟨#[]⟩, .bool false, .int .i64 0]) ?_ 6 _ rfl; (with_reducible repeat (first | refine blk_drewN ?_ _ | refine blk_drew ?_ | refine blk_alloc ?_ _)); refine blk_put (cs := #[.int .i64 0, .int .i64 0, .int .i64 0, .int .i64 0, .string ⟨#[]⟩, .string ⟨#[]⟩, .bool false, .int .i64 0]) ?_ 5 _ rfl; (with_reducible repeat (first | refine blk_drewN ?_ _ | refine blk_drew ?_ | refine blk_alloc ?_ _)); refine blk_put (cs := #[.int .i64 0, .int .i64 0, .int .i64 0, .int .i64 0, .string ⟨#[]⟩, .string ⟨#[]⟩, .bool false, .int .i64 0]) ?_ 4 _ rfl; (with_reducible repeat (first | refine blk_drewN ?_ _ | refine blk_drew ?_ | refine blk_alloc ?_ _)); refine blk_put (cs := #[.int .i64 0, .int .i64 0, .int .i64 0, .int .i64 0, .string ⟨#[]⟩, .string ⟨#[]⟩, .bool false, .int .i64 0]) ?_ 3 _ rfl; (with_reducible repeat (first | refine blk_drewN ?_ _ | refine blk_drew ?_ | refine blk_alloc ?_ _)); refine blk_put (cs := #[.int .i64 0, .int .i64 0, .int .i64 0, .int .i64 0, .string ⟨#[]⟩, .string ⟨#[]⟩, .bool false, .int .i64 0]) ?_ 2 _ rfl; (with_reducible repeat (first | refine blk_drewN ?_ _ | refine blk_drew ?_ | refine blk_alloc ?_ _)); refine blk_put (cs := #[.int .i64 0, .int .i64 0, .int .i64 0, .int .i64 0, .string ⟨#[]⟩, .string ⟨#[]⟩, .bool false, .int .i64 0]) ?_ 1 _ rfl; (with_reducible repeat (first | refine blk_drewN ?_ _ | refine blk_drew ?_ | refine blk_alloc ?_ _)); refine blk_put (cs := #[.int .i64 0, .int .i64 0, .int .i64 0, .int .i64 0, .string ⟨#[]⟩, .string ⟨#[]⟩, .bool false, .int .i64 0]) ?_ 0 _ rfl; (with_reducible repeat (first | refine blk_drewN ?_ _ | refine blk_drew ?_ | refine blk_alloc ?_ _)); exact BK236.out) Tryd.underlying23 rfl (by kernel_rfl)) rfl ?_
    exact ⟨by first | rfl | (simp [errW_none, errW_some] <;> rfl) | (simp [*, errW_none, errW_some] <;> rfl), by repeat (first | (with_reducible first | exact HB.out | apply below_alloc | apply pw_below_drewN | apply below_drew1 | refine below_set ?_ GE236.out) | exact HB.out)⟩
   ·replace c6 := Bool.eq_false_iff.mpr c6
    subst c6
    have H1 : (if a1 = (a0.size : Int) then (some (0, 0, 0, 0, (⟨#[]⟩ : ByteArray), (⟨#[]⟩ : ByteArray), false, 0, 0, 3)) else (if 0 ≤ a1 then (if a1 < (a0.size : Int) then (if (bt a0 a1) > 10 then (some (0, 0, 0, 0, (⟨#[]⟩ : ByteArray), (⟨#[]⟩ : ByteArray), false, 0, 0, 6)) else (rivuletref23_Get.l0 kj2 a0 (([0, 0, 0, 0] : List Int)) (wrap64 (a1 + 1)) 0 (wrap64 (bt a0 a1)) 0 0 0 ⟨#[]⟩ ⟨#[]⟩ false 0)) else (none)) else (none))) = some (r1, r2, r3, r4, r5, r6, r7, r8, r9, r10) := by rw [if_neg (show ¬ (false = true) by decide)] at H; exact H
    clear H
    have H := H1
    clear H1
    by_cases c8 : a1 = (a0.size : Int)
    ·rw [if_pos c8] at H
     have c8b0 : (a1 == (a0.size : Int)) = true := beq_iff_eq.mpr c8
     have c8b1 : (a1 != (a0.size : Int)) = false := bne_eq_false_iff_eq.mpr c8
     clear c8
     simp only [Option.some.injEq, Prod.mk.injEq] at H
     obtain ⟨rfl, rfl, rfl, rfl, rfl, rfl, rfl, rfl, rfl, rfl⟩ := H
     have hcz9_0 : wc.cell? ⟨gb236, 0, none⟩ = some (.int .i64 0) := (blk_cell BK236.out 0).trans rfl
     have hcz9_1 : wc.cell? ⟨gb236, 1, none⟩ = some (.int .i64 0) := (blk_cell BK236.out 1).trans rfl
     have hcz9_2 : wc.cell? ⟨gb236, 2, none⟩ = some (.int .i64 0) := (blk_cell BK236.out 2).trans rfl
     have hcz9_3 : wc.cell? ⟨gb236, 3, none⟩ = some (.int .i64 0) := (blk_cell BK236.out 3).trans rfl
     have hcz9_4 : wc.cell? ⟨gb236, 4, none⟩ = some (.string ⟨#[]⟩) := (blk_cell BK236.out 4).trans rfl
     have hcz9_5 : wc.cell? ⟨gb236, 5, none⟩ = some (.string ⟨#[]⟩) := (blk_cell BK236.out 5).trans rfl
     have hcz9_6 : wc.cell? ⟨gb236, 6, none⟩ = some (.bool false) := (blk_cell BK236.out 6).trans rfl
     have hcz9_7 : wc.cell? ⟨gb236, 7, none⟩ = some (.int .i64 0) := (blk_cell BK236.out 7).trans rfl
     have hfz9_0 := blk_frozen BK236.out 0
     have hfz9_1 := blk_frozen BK236.out 1
     have hfz9_2 := blk_frozen BK236.out 2
     have hfz9_3 := blk_frozen BK236.out 3
     have hfz9_4 := blk_frozen BK236.out 4
     have hfz9_5 := blk_frozen BK236.out 5
     have hfz9_6 := blk_frozen BK236.out 6
     have hfz9_7 := blk_frozen BK236.out 7
     go_wp2
     refine bodyPost_ret (results_ctt rfl _ _ gb236 23 #[.int .i64 0, .int .i64 0, .int .i64 0, .int .i64 0, .string ⟨#[]⟩, .string ⟨#[]⟩, .bool false, .int .i64 0] (0, 0) _ rfl (by (with_reducible repeat (first | refine blk_drewN ?_ _ | refine blk_drew ?_ | refine blk_alloc ?_ _)); refine blk_put (cs := #[.int .i64 0, .int .i64 0, .int .i64 0, .int .i64 0, .string ⟨#[]⟩, .string ⟨#[]⟩, .bool false, .int .i64 0]) ?_ 7 _ rfl; (with_reducible repeat (first | refine blk_drewN ?_ _ | refine blk_drew ?_ | refine blk_alloc ?_ _)); refine blk_put (cs := #[.int .i64 0, .int .i64 0, .int .i64 0, .int .i64 0, .string ⟨#[]⟩, .string ⟨#[]⟩, .bool false, .int .i64 0]) ?_ 6 _ rfl; (with_reducible repeat (first | refine blk_drewN ?_ _ | refine blk_drew ?_ | refine blk_alloc ?_ _)); refine blk_put (cs := #[.int .i64 0, .int .i64 0, .int .i64 0, .int .i64 0, .string ⟨#[]⟩, .string ⟨#[]⟩, .bool false, .int .i64 0]) ?_ 5 _ rfl; (with_reducible repeat (first | refine blk_drewN ?_ _ | refine blk_drew ?_ | refine blk_alloc ?_ _)); refine blk_put (cs := #[.int .i64 0, .int .i64 0, .int .i64 0, .int .i64 0, .string ⟨#[]⟩, .string ⟨#[]⟩, .bool false, .int .i64 0]) ?_ 4 _ rfl; (with_reducible repeat (first | refine blk_drewN ?_ _ | refine blk_drew ?_ | refine blk_alloc ?_ _)); refine blk_put (cs := #[.int .i64 0, .int .i64 0, .int .i64 0, .int .i64 0, .string ⟨#[]⟩, .string ⟨#[]⟩, .bool false, .int .i64 0]) ?_ 3 _ rfl; (with_reducible repeat (first | refine blk_drewN ?_ _ | refine blk_drew ?_ | refine blk_alloc ?_ _)); refine blk_put (cs := #[.int .i64 0, .int .i64 0, .int .i64 0, .int .i64 0, .string ⟨#[]⟩, .string ⟨#[]⟩, .bool false, .int .i64 0]) ?_ 2 _ rfl; (with_reducible repeat (first | refine blk_drewN ?_ _ | refine blk_drew ?_ | refine blk_alloc ?_ _)); refine blk_put (cs := #[.int .i64 0, .int .i64 0, .int .i64 0, .int .i64 0, .string ⟨#[]⟩, .string ⟨#[]⟩, .bool false, .int .i64 0]) ?_ 1 _ rfl; (with_reducible repeat (first | refine blk_drewN ?_ _ | refine blk_drew ?_ | refine blk_alloc ?_ _)); refine blk_put (cs := #[.int .i64 0, .int .i64 0, .int .i64 0, .int .i64 0, .string ⟨#[]⟩, .string ⟨#[]⟩, .bool false, .int .i64 0]) ?_ 0 _ rfl; (with_reducible repeat (first | refine blk_drewN ?_ _ | refine blk_drew ?_ | refine blk_alloc ?_ _)); exact BK236.out) Tryd.underlying23 rfl (by kernel_rfl)) rfl ?_
     exact ⟨by first | rfl | (simp [errW_none, errW_some] <;> rfl) | (simp [*, errW_none, errW_some] <;> rfl), by repeat (first | (with_reducible first | exact HB.out | apply below_alloc | apply pw_below_drewN | apply below_drew1 | refine below_set ?_ GE236.out) | exact HB.out)⟩
    ·rw [if_neg c8] at H
     have c8b0 : (a1 == (a0.size : Int)) = false := beq_eq_false_iff_ne.mpr c8
     have c8b1 : (a1 != (a0.size : Int)) = true := bne_iff_ne.mpr c8
     by_cases c10 : 0 ≤ a1
     ·rw [if_pos c10] at H
      have c10b0 : decide (0 ≤ a1) = true := decide_eq_true c10
      clear c10
      by_cases c11 : a1 < (a0.size : Int)
      ·rw [if_pos c11] at H
       have c11b0 : decide (a1 < (a0.size : Int)) = true := decide_eq_true c11
       clear c11
       by_cases c13 : (bt a0 a1) > 10
       ·rw [if_pos c13] at H
        have c13b0 : decide (10 < (bt a0 a1)) = true := decide_eq_true c13
        clear c13
        simp only [Option.some.injEq, Prod.mk.injEq] at H
        obtain ⟨rfl, rfl, rfl, rfl, rfl, rfl, rfl, rfl, rfl, rfl⟩ := H
        have p12 : 0 ≤ (a1 : Int) := of_decide_eq_true (by first | (with_reducible assumption) | assumption)
        have q12 : a1 < (a0.size : Int) := of_decide_eq_true (by first | (with_reducible assumption) | assumption)
        have hx12 := bt_at a0 a1
        replace p12 := eq_true p12
        replace q12 := eq_true q12
        have hcz14_0 : wc.cell? ⟨gb236, 0, none⟩ = some (.int .i64 0) := (blk_cell BK236.out 0).trans rfl
        have hcz14_1 : wc.cell? ⟨gb236, 1, none⟩ = some (.int .i64 0) := (blk_cell BK236.out 1).trans rfl
        have hcz14_2 : wc.cell? ⟨gb236, 2, none⟩ = some (.int .i64 0) := (blk_cell BK236.out 2).trans rfl
        have hcz14_3 : wc.cell? ⟨gb236, 3, none⟩ = some (.int .i64 0) := (blk_cell BK236.out 3).trans rfl
        have hcz14_4 : wc.cell? ⟨gb236, 4, none⟩ = some (.string ⟨#[]⟩) := (blk_cell BK236.out 4).trans rfl
        have hcz14_5 : wc.cell? ⟨gb236, 5, none⟩ = some (.string ⟨#[]⟩) := (blk_cell BK236.out 5).trans rfl
        have hcz14_6 : wc.cell? ⟨gb236, 6, none⟩ = some (.bool false) := (blk_cell BK236.out 6).trans rfl
        have hcz14_7 : wc.cell? ⟨gb236, 7, none⟩ = some (.int .i64 0) := (blk_cell BK236.out 7).trans rfl
        have hfz14_0 := blk_frozen BK236.out 0
        have hfz14_1 := blk_frozen BK236.out 1
        have hfz14_2 := blk_frozen BK236.out 2
        have hfz14_3 := blk_frozen BK236.out 3
        have hfz14_4 := blk_frozen BK236.out 4
        have hfz14_5 := blk_frozen BK236.out 5
        have hfz14_6 := blk_frozen BK236.out 6
        have hfz14_7 := blk_frozen BK236.out 7
        go_wp2
        refine bodyPost_ret (results_ctt rfl _ _ gb236 23 #[.int .i64 0, .int .i64 0, .int .i64 0, .int .i64 0, .string ⟨#[]⟩, .string ⟨#[]⟩, .bool false, .int .i64 0] (0, 0) _ rfl (by (with_reducible repeat (first | refine blk_drewN ?_ _ | refine blk_drew ?_ | refine blk_alloc ?_ _)); refine blk_put (cs := #[.int .i64 0, .int .i64 0, .int .i64 0, .int .i64 0, .string ⟨#[]⟩, .string ⟨#[]⟩, .bool false, .int .i64 0]) ?_ 7 _ rfl; (with_reducible repeat (first | refine blk_drewN ?_ _ | refine blk_drew ?_ | refine blk_alloc ?_ _)); refine blk_put (cs := #[.int .i64 0, .int .i64 0, .int .i64 0, .int .i64 0, .string ⟨#[]⟩, .string ⟨#[]⟩, .bool false, .int .i64 0]) ?_ 6 _ rfl; (with_reducible repeat (first | refine blk_drewN ?_ _ | refine blk_drew ?_ | refine blk_alloc ?_ _)); refine blk_put (cs := #[.int .i64 0, .int .i64 0, .int .i64 0, .int .i64 0, .string ⟨#[]⟩, .string ⟨#[]⟩, .bool false, .int .i64 0]) ?_ 5 _ rfl; (with_reducible repeat (first | refine blk_drewN ?_ _ | refine blk_drew ?_ | refine blk_alloc ?_ _)); refine blk_put (cs := #[.int .i64 0, .int .i64 0, .int .i64 0, .int .i64 0, .string ⟨#[]⟩, .string ⟨#[]⟩, .bool false, .int .i64 0]) ?_ 4 _ rfl; (with_reducible repeat (first | refine blk_drewN ?_ _ | refine blk_drew ?_ | refine blk_alloc ?_ _)); refine blk_put (cs := #[.int .i64 0, .int .i64 0, .int .i64 0, .int .i64 0, .string ⟨#[]⟩, .string ⟨#[]⟩, .bool false, .int .i64 0]) ?_ 3 _ rfl; (with_reducible repeat (first | refine blk_drewN ?_ _ | refine blk_drew ?_ | refine blk_alloc ?_ _)); refine blk_put (cs := #[.int .i64 0, .int .i64 0, .int .i64 0, .int .i64 0, .string ⟨#[]⟩, .string ⟨#[]⟩, .bool false, .int .i64 0]) ?_ 2 _ rfl; (with_reducible repeat (first | refine blk_drewN ?_ _ | refine blk_drew ?_ | refine blk_alloc ?_ _)); refine blk_put (cs := #[.int .i64 0, .int .i64 0, .int .i64 0, .int .i64 0, .string ⟨#[]⟩, .string ⟨#[]⟩, .bool false, .int .i64 0]) ?_ 1 _ rfl; (with_reducible repeat (first | refine blk_drewN ?_ _ | refine blk_drew ?_ | refine blk_alloc ?_ _)); refine blk_put (cs := #[.int .i64 0, .int .i64 0, .int .i64 0, .int .i64 0, .string ⟨#[]⟩, .string ⟨#[]⟩, .bool false, .int .i64 0]) ?_ 0 _ rfl; (with_reducible repeat (first | refine blk_drewN ?_ _ | refine blk_drew ?_ | refine blk_alloc ?_ _)); exact BK236.out) Tryd.underlying23 rfl (by kernel_rfl)) rfl ?_
        exact ⟨by first | rfl | (simp [errW_none, errW_some] <;> rfl) | (simp [*, errW_none, errW_some] <;> rfl), by repeat (first | (with_reducible first | exact HB.out | apply below_alloc | apply pw_below_drewN | apply below_drew1 | refine below_set ?_ GE236.out) | exact HB.out)⟩
       ·rw [if_neg c13] at H
        have c13b0 : decide (10 < (bt a0 a1)) = false := decide_eq_false c13
        clear c13
        obtain ⟨y238, hy238⟩ : ∃ y_ : List Int, y_ = (([0, 0, 0, 0] : List Int)) := ⟨_, rfl⟩
        replace H : (rivuletref23_Get.l0 kj2 a0 y238 (wrap64 (a1 + 1)) 0 (wrap64 (bt a0 a1)) 0 0 0 ⟨#[]⟩ ⟨#[]⟩ false 0) = some (r1, r2, r3, r4, r5, r6, r7, r8, r9, r10) := by first | (rw [hy238]; with_reducible exact H) | (have H2_ := (Option.bind_some _ _).symm.trans H; rw [hy238]; with_reducible exact H2_) | (have H2_ := (Option.bind_some _ _).symm.trans H; with_reducible exact H2_) | with_reducible exact H | (rw [hy238]; exact H) | exact H
        have Ny238 := Aside0.mk hy238
        clear hy238
        have H' := Aside0.mk H
        clear H
        have p12 : 0 ≤ (a1 : Int) := of_decide_eq_true (by first | (with_reducible assumption) | assumption)
        have q12 : a1 < (a0.size : Int) := of_decide_eq_true (by first | (with_reducible assumption) | assumption)
        have hx12 := bt_at a0 a1
        replace p12 := eq_true p12
        replace q12 := eq_true q12
        have p15 : 0 ≤ (a1 : Int) := of_decide_eq_true (by first | (with_reducible assumption) | assumption)
        have q15 : a1 < (a0.size : Int) := of_decide_eq_true (by first | (with_reducible assumption) | assumption)
        have hx15 := bt_at a0 a1
        replace p15 := eq_true p15
        replace q15 := eq_true q15
        go_wp2_with (first | ((with_reducible refine gate_dst (N := 7) rfl ?_); (try (refine gate_guard (by rfl) ?_; dsimp only)); refine box_event ?hg (N := 7) ?hd (cs := #[.int .i64 0, .int .i64 0, .int .i64 0, .int .i64 0, .string ⟨#[]⟩, .string ⟨#[]⟩, .bool false, .int .i64 0]) (t := 23) ?hr ?_; (case hd => rfl); (case hg => rfl); (case hr => first | (go_simp; done) | (go_simp; rfl)); intro gb237 hg w16 hbox hb; have n0_ := Aside0.mk (blk_below (g := gb236) (o := .cells #[.int .i64 0, .int .i64 0, .int .i64 0, .int .i64 0, .string ⟨#[]⟩, .string ⟨#[]⟩, .bool false, .int .i64 0] 23 (0, 0)) (by (with_reducible repeat (first | refine blk_drewN ?_ _ | refine blk_drew ?_ | refine blk_alloc ?_ _)); exact BK236.out) hb); have n1_ := Aside0.mk (below_step (by repeat (first | (with_reducible first | exact HB.out | apply below_alloc | apply pw_below_drewN | apply below_drew1 | refine below_set ?_ GE236.out) | exact HB.out)) hb); have n2_ := Aside0.mk (hbox); have n3_ := Aside0.mk ((by rw [hg]; exact (below_size (by repeat (first | (with_reducible first | exact HB.out | apply below_alloc | apply pw_below_drewN | apply below_drew1 | refine below_set ?_ GE236.out) | exact HB.out))) : w.heap.size ≤ gb237)); have n4_ := Aside0.mk ((by rw [hg]; exact (below_size (by repeat (first | (with_reducible first | exact HB.out | apply below_alloc | apply pw_below_drewN | apply below_drew1 | refine below_set ?_ GE236.out) | exact HB.out))) : w.heap.size ≤ gb237)); have n5_ := Aside0.mk ((by rw [hg]; exact Nat.ne_of_lt (blk_lt (g := gb236) (o := .cells #[.int .i64 0, .int .i64 0, .int .i64 0, .int .i64 0, .string ⟨#[]⟩, .string ⟨#[]⟩, .bool false, .int .i64 0] 23 (0, 0)) (by (with_reducible repeat (first | refine blk_drewN ?_ _ | refine blk_drew ?_ | refine blk_alloc ?_ _)); exact BK236.out)) : gb236 ≠ gb237)); have n6_ := Aside0.mk ((by rw [hg]; exact Nat.ne_of_gt (blk_lt (g := gb236) (o := .cells #[.int .i64 0, .int .i64 0, .int .i64 0, .int .i64 0, .string ⟨#[]⟩, .string ⟨#[]⟩, .bool false, .int .i64 0] 23 (0, 0)) (by (with_reducible repeat (first | refine blk_drewN ?_ _ | refine blk_drew ?_ | refine blk_alloc ?_ _)); exact BK236.out)) : gb237 ≠ gb236)); clear BK236; clear HB; have BK236 := n0_; have HB := n1_; have BK237 := n2_; have GW237 := n3_; have GE237 := n4_; have NB236_237 := n5_; have NB237_236 := n6_; clear n0_ n1_ n2_ n3_ n4_ n5_ n6_; clear hb hbox hg; have hnb17 := NB237_236.out; have hnc17 := NB236_237.out; have hcz18_0 : w16.cell? ⟨gb237, 0, none⟩ = some (.int .i64 0) := (blk_cell BK237.out 0).trans rfl; have hcz18_1 : w16.cell? ⟨gb237, 1, none⟩ = some (.int .i64 0) := (blk_cell BK237.out 1).trans rfl; have hcz18_2 : w16.cell? ⟨gb237, 2, none⟩ = some (.int .i64 0) := (blk_cell BK237.out 2).trans rfl; have hcz18_3 : w16.cell? ⟨gb237, 3, none⟩ = some (.int .i64 0) := (blk_cell BK237.out 3).trans rfl; have hcz18_4 : w16.cell? ⟨gb237, 4, none⟩ = some (.string ⟨#[]⟩) := (blk_cell BK237.out 4).trans rfl; have hcz18_5 : w16.cell? ⟨gb237, 5, none⟩ = some (.string ⟨#[]⟩) := (blk_cell BK237.out 5).trans rfl; have hcz18_6 : w16.cell? ⟨gb237, 6, none⟩ = some (.bool false) := (blk_cell BK237.out 6).trans rfl; have hcz18_7 : w16.cell? ⟨gb237, 7, none⟩ = some (.int .i64 0) := (blk_cell BK237.out 7).trans rfl; have hfz18_0 := blk_frozen BK237.out 0; have hfz18_1 := blk_frozen BK237.out 1; have hfz18_2 := blk_frozen BK237.out 2; have hfz18_3 := blk_frozen BK237.out 3; have hfz18_4 := blk_frozen BK237.out 4; have hfz18_5 := blk_frozen BK237.out 5; have hfz18_6 := blk_frozen BK237.out 6; have hfz18_7 := blk_frozen BK237.out 7) | ((with_reducible refine gate_dst (N := 38) rfl ?_); (try (refine gate_guard (by rfl) ?_; dsimp only)); refine Kd.R_lit (Kd.int .i64) _ 3 ?hg (N := 38) ?hd (xs := ([0, 0, 0, 0] : List Int)) (inner := [.int .i64 0, .int .i64 0, .int .i64 0, .int .i64 0]) (ok := fun _ => True) (okp := fun _ => True) ?hr ?hp (fun _ hk => hk) trivial (Below.refl _ _) (Nat.le_refl _) (by simp) ?_; (case hd => rfl); (case hg => rfl); (case hr => first | (go_simp; done) | (go_simp; rfl)); (case hp => exact (Reps.one (show Kd.M (Kd.int .i64) _ _ _ 0 [.int .i64 0] from rfl) (Reps.one (show Kd.M (Kd.int .i64) _ _ _ 0 [.int .i64 0] from rfl) (Reps.one (show Kd.M (Kd.int .i64) _ _ _ 0 [.int .i64 0] from rfl) (Reps.one (show Kd.M (Kd.int .i64) _ _ _ 0 [.int .i64 0] from rfl) (Reps.none _ _)))))); intro v239 w19 ho20 hb hg_ hnew_; clear hg_ hnew_; (first | rw [← Ny238.out] at ho20 | (simp only [Int.reduceToNat] at ho20; rw [← Ny238.out] at ho20)); have n0_ := Aside0.mk (Kd.R_lower ho20 (below_size (by repeat (first | (with_reducible first | exact HB.out | apply below_alloc | apply pw_below_drewN | apply below_drew1 | refine below_set ?_ GE236.out | refine below_set ?_ GE237.out) | exact HB.out)))); have n1_ := Aside0.mk (blk_below (g := gb236) (o := .cells #[.int .i64 0, .int .i64 0, .int .i64 0, .int .i64 0, .string ⟨#[]⟩, .string ⟨#[]⟩, .bool false, .int .i64 0] 23 (0, 0)) (by (with_reducible repeat (first | refine blk_drewN ?_ _ | refine blk_drew ?_ | refine blk_alloc ?_ _)); refine blk_far ?_ NB236_237.out _; (with_reducible repeat (first | refine blk_drewN ?_ _ | refine blk_drew ?_ | refine blk_alloc ?_ _)); refine blk_far ?_ NB236_237.out _; (with_reducible repeat (first | refine blk_drewN ?_ _ | refine blk_drew ?_ | refine blk_alloc ?_ _)); refine blk_far ?_ NB236_237.out _; (with_reducible repeat (first | refine blk_drewN ?_ _ | refine blk_drew ?_ | refine blk_alloc ?_ _)); refine blk_far ?_ NB236_237.out _; (with_reducible repeat (first | refine blk_drewN ?_ _ | refine blk_drew ?_ | refine blk_alloc ?_ _)); refine blk_far ?_ NB236_237.out _; (with_reducible repeat (first | refine blk_drewN ?_ _ | refine blk_drew ?_ | refine blk_alloc ?_ _)); refine blk_far ?_ NB236_237.out _; (with_reducible repeat (first | refine blk_drewN ?_ _ | refine blk_drew ?_ | refine blk_alloc ?_ _)); refine blk_far ?_ NB236_237.out _; (with_reducible repeat (first | refine blk_drewN ?_ _ | refine blk_drew ?_ | refine blk_alloc ?_ _)); refine blk_far ?_ NB236_237.out _; (with_reducible repeat (first | refine blk_drewN ?_ _ | refine blk_drew ?_ | refine blk_alloc ?_ _)); exact BK236.out) hb); have n2_ := Aside0.mk (blk_below (g := gb237) (o := .cells #[.int .i64 (wrap64 (bt a0 a1)), .int .i64 0, .int .i64 0, .int .i64 0, .string ⟨#[]⟩, .string ⟨#[]⟩, .bool false, .int .i64 0] 23 (0, 0)) (by (with_reducible repeat (first | refine blk_drewN ?_ _ | refine blk_drew ?_ | refine blk_alloc ?_ _)); refine blk_put (cs := #[.int .i64 (wrap64 (bt a0 a1)), .int .i64 0, .int .i64 0, .int .i64 0, .string ⟨#[]⟩, .string ⟨#[]⟩, .bool false, .int .i64 0]) ?_ 7 _ rfl; (with_reducible repeat (first | refine blk_drewN ?_ _ | refine blk_drew ?_ | refine blk_alloc ?_ _)); refine blk_put (cs := #[.int .i64 (wrap64 (bt a0 a1)), .int .i64 0, .int .i64 0, .int .i64 0, .string ⟨#[]⟩, .string ⟨#[]⟩, .bool false, .int .i64 0]) ?_ 6 _ rfl; (with_reducible repeat (first | refine blk_drewN ?_ _ | refine blk_drew ?_ | refine blk_alloc ?_ _)); refine blk_put (cs := #[.int .i64 (wrap64 (bt a0 a1)), .int .i64 0, .int .i64 0, .int .i64 0, .string ⟨#[]⟩, .string ⟨#[]⟩, .bool false, .int .i64 0]) ?_ 5 _ rfl; (with_reducible repeat (first | refine blk_drewN ?_ _ | refine blk_drew ?_ | refine blk_alloc ?_ _)); refine blk_put (cs := #[.int .i64 (wrap64 (bt a0 a1)), .int .i64 0, .int .i64 0, .int .i64 0, .string ⟨#[]⟩, .string ⟨#[]⟩, .bool false, .int .i64 0]) ?_ 4 _ rfl; (with_reducible repeat (first | refine blk_drewN ?_ _ | refine blk_drew ?_ | refine blk_alloc ?_ _)); refine blk_put (cs := #[.int .i64 (wrap64 (bt a0 a1)), .int .i64 0, .int .i64 0, .int .i64 0, .string ⟨#[]⟩, .string ⟨#[]⟩, .bool false, .int .i64 0]) ?_ 3 _ rfl; (with_reducible repeat (first | refine blk_drewN ?_ _ | refine blk_drew ?_ | refine blk_alloc ?_ _)); refine blk_put (cs := #[.int .i64 (wrap64 (bt a0 a1)), .int .i64 0, .int .i64 0, .int .i64 0, .string ⟨#[]⟩, .string ⟨#[]⟩, .bool false, .int .i64 0]) ?_ 2 _ rfl; (with_reducible repeat (first | refine blk_drewN ?_ _ | refine blk_drew ?_ | refine blk_alloc ?_ _)); refine blk_put (cs := #[.int .i64 (wrap64 (bt a0 a1)), .int .i64 0, .int .i64 0, .int .i64 0, .string ⟨#[]⟩, .string ⟨#[]⟩, .bool false, .int .i64 0]) ?_ 1 _ rfl; (with_reducible repeat (first | refine blk_drewN ?_ _ | refine blk_drew ?_ | refine blk_alloc ?_ _)); refine blk_put (cs := #[.int .i64 0, .int .i64 0, .int .i64 0, .int .i64 0, .string ⟨#[]⟩, .string ⟨#[]⟩, .bool false, .int .i64 0]) ?_ 0 _ rfl; (with_reducible repeat (first | refine blk_drewN ?_ _ | refine blk_drew ?_ | refine blk_alloc ?_ _)); exact BK237.out) hb); have n3_ := Aside0.mk (below_step (by repeat (first | (with_reducible first | exact HB.out | apply below_alloc | apply pw_below_drewN | apply below_drew1 | refine below_set ?_ GE236.out | refine below_set ?_ GE237.out) | exact HB.out)) hb); clear BK236; clear BK237; clear HB; have HO240 := n0_; have BK236 := n1_; have BK237 := n2_; have HB := n3_; clear n0_ n1_ n2_ n3_; clear hb ho20))
        go_loopg [9, 10] kj2 (fun kq v9 v10 w' => ∃ (x8_2 : List Int) (x9_2 : Int) (x10_2 : Int) (x237000_2 : Int) (x237001_2 : Int) (x237002_2 : Int) (x237003_2 : Int) (x237004_2 : ByteArray) (x237005_2 : ByteArray) (x237006_2 : Bool) (x237007_2 : Int), v9 = .int .i64 x9_2 ∧ v10 = .int .i64 x10_2 ∧ Aside0 (rivuletref23_Get.l0 kq a0 x8_2 x9_2 x10_2 (wrap64 (bt a0 a1)) 0 0 0 ⟨#[]⟩ ⟨#[]⟩ false 0 = some (r1, r2, r3, r4, r5, r6, r7, r8, r9, r10)) ∧ Aside0 (kq ≤ kj2) ∧ Aside0 (Kd.R (Kd.int .i64) 3 w' w.heap.size (fun _ => True) v239 x8_2) ∧ Aside0 (w'.heap[gb236]? = some (.cells #[.int .i64 x237000_2, .int .i64 x237001_2, .int .i64 x237002_2, .int .i64 x237003_2, .string x237004_2, .string x237005_2, .bool x237006_2, .int .i64 x237007_2] 23 (0, 0))) ∧ Aside0 (w'.heap[gb237]? = some (.cells #[.int .i64 (wrap64 (bt a0 a1)), .int .i64 0, .int .i64 0, .int .i64 0, .string ⟨#[]⟩, .string ⟨#[]⟩, .bool false, .int .i64 0] 23 (0, 0))) ∧ Aside0 (Below w.heap.size w w'))
        case atStart => exact ⟨(y238), (wrap64 (a1 + 1)), (0), (0), (0), (0), (0), ((⟨#[]⟩ : ByteArray)), ((⟨#[]⟩ : ByteArray)), (false), (0), (by first | rfl | (simp; done) | (simp [*]; done)), (by first | rfl | (simp; done) | (simp [*]; done)), H', ⟨Nat.le_refl _⟩, ⟨by (with_reducible repeat (first | apply Kd.R_alloc | apply Kd.R_drewN | apply Kd.R_drew)); exact HO240.out⟩, ⟨by (with_reducible repeat (first | refine blk_drewN ?_ _ | refine blk_drew ?_ | refine blk_alloc ?_ _)); exact BK236.out⟩, ⟨by (with_reducible repeat (first | refine blk_drewN ?_ _ | refine blk_drew ?_ | refine blk_alloc ?_ _)); exact BK237.out⟩, ⟨by repeat (first | (with_reducible first | exact HB.out | apply below_alloc | apply pw_below_drewN | apply below_drew1 | refine below_set ?_ GE236.out | refine below_set ?_ GE237.out) | exact HB.out)⟩⟩
        case round =>
         clear H'
         try clear c1
         try clear p1
         try clear q1
         try clear hx1
         try clear c2
         try clear p2
         try clear c5
         try clear c5b0
         try clear c6
         try clear p6
         try clear c8
         try clear c8b0
         try clear c8b1
         try clear c10
         try clear c10b0
         try clear c11
         try clear c11b0
         try clear p12
         try clear q12
         try clear hx12
         try clear c13
         try clear c13b0
         try clear p15
         try clear q15
         try clear hx15
         try clear c17
         try clear hcz14_0
         try clear hcz14_1
         try clear hcz14_2
         try clear hcz14_3
         try clear hcz14_4
         try clear hcz14_5
         try clear hcz14_6
         try clear hcz14_7
         try clear hcz18_0
         try clear hcz18_1
         try clear hcz18_2
         try clear hcz18_3
         try clear hcz18_4
         try clear hcz18_5
         try clear hcz18_6
         try clear hcz18_7
         try clear hcz7_0
         try clear hcz7_1
         try clear hcz7_2
         try clear hcz7_3
         try clear hcz7_4
         try clear hcz7_5
         try clear hcz7_6
         try clear hcz7_7
         try clear hcz9_0
         try clear hcz9_1
         try clear hcz9_2
         try clear hcz9_3
         try clear hcz9_4
         try clear hcz9_5
         try clear hcz9_6
         try clear hcz9_7
         try clear hfz14_0
         try clear hfz14_1
         try clear hfz14_2
         try clear hfz14_3
         try clear hfz14_4
         try clear hfz14_5
         try clear hfz14_6
         try clear hfz14_7
         try clear hfz18_0
         try clear hfz18_1
         try clear hfz18_2
         try clear hfz18_3
         try clear hfz18_4
         try clear hfz18_5
         try clear hfz18_6
         try clear hfz18_7
         try clear hfz7_0
         try clear hfz7_1
         try clear hfz7_2
         try clear hfz7_3
         try clear hfz7_4
         try clear hfz7_5
         try clear hfz7_6
         try clear hfz7_7
         try clear hfz9_0
         try clear hfz9_1
         try clear hfz9_2
         try clear hfz9_3
         try clear hfz9_4
         try clear hfz9_5
         try clear hfz9_6
         try clear hfz9_7
         try clear p12
         try clear p15
         try clear p2
         try clear q12
         try clear q15
         obtain ⟨x8_2, x9_2, x10_2, x237000_2, x237001_2, x237002_2, x237003_2, x237004_2, x237005_2, x237006_2, x237007_2, rfl, rfl, HA, HK2, HO_8, BK236, BK237, HB⟩ := hrel
         cases gk with
         | zero => exact absurd HA.out (by simp [rivuletref23_Get.l0])
         | succ k2 =>
          have H := HA.out
          clear HA
          simp only [rivuletref23_Get.l0] at H
          by_cases c21 : x10_2 < 4
          ·rw [if_pos c21] at H
           have c21b0 : decide (x10_2 < 4) = true := decide_eq_true c21
           clear c21
           replace H := Option.bind_eq_some_iff.mp H
           obtain ⟨t255, A220, H⟩ := H
           replace H : (if t255 = true then ((rivuletref01_Get.f k2 a0 x9_2).bind fun bt256 => (if bt256.2.2 = 0 then (if bt256.1 > 1099511627776 then (if 0 ≤ x10_2 then (if x10_2 < (x8_2.length : Int) then (rivuletref23_Get.l0 k2 a0 (x8_2.set (x10_2 : Int).toNat 1099511627777) bt256.2.1 (wrap64 (x10_2 + 1)) (wrap64 (bt a0 a1)) 0 0 0 ⟨#[]⟩ ⟨#[]⟩ false 0) else (none)) else (none)) else (if 0 ≤ x10_2 then (if x10_2 < (x8_2.length : Int) then (rivuletref23_Get.l0 k2 a0 (x8_2.set (x10_2 : Int).toNat (wrap64 (bt256.1))) bt256.2.1 (wrap64 (x10_2 + 1)) (wrap64 (bt a0 a1)) 0 0 0 ⟨#[]⟩ ⟨#[]⟩ false 0) else (none)) else (none))) else (some (0, 0, 0, 0, (⟨#[]⟩ : ByteArray), (⟨#[]⟩ : ByteArray), false, 0, 0, bt256.2.2)))) else (rivuletref23_Get.l0 k2 a0 x8_2 x9_2 (wrap64 (x10_2 + 1)) (wrap64 (bt a0 a1)) 0 0 0 ⟨#[]⟩ ⟨#[]⟩ false 0)) = some (r1, r2, r3, r4, r5, r6, r7, r8, r9, r10) := H
           have A22 := Aside0.mk A220
           clear A220
           by_cases c23 : t255 = true
           ·subst c23
            have H1 : ((rivuletref01_Get.f k2 a0 x9_2).bind fun bt256 => (if bt256.2.2 = 0 then (if bt256.1 > 1099511627776 then (if 0 ≤ x10_2 then (if x10_2 < (x8_2.length : Int) then (rivuletref23_Get.l0 k2 a0 (x8_2.set (x10_2 : Int).toNat 1099511627777) bt256.2.1 (wrap64 (x10_2 + 1)) (wrap64 (bt a0 a1)) 0 0 0 ⟨#[]⟩ ⟨#[]⟩ false 0) else (none)) else (none)) else (if 0 ≤ x10_2 then (if x10_2 < (x8_2.length : Int) then (rivuletref23_Get.l0 k2 a0 (x8_2.set (x10_2 : Int).toNat (wrap64 (bt256.1))) bt256.2.1 (wrap64 (x10_2 + 1)) (wrap64 (bt a0 a1)) 0 0 0 ⟨#[]⟩ ⟨#[]⟩ false 0) else (none)) else (none))) else (some (0, 0, 0, 0, (⟨#[]⟩ : ByteArray), (⟨#[]⟩ : ByteArray), false, 0, 0, bt256.2.2)))) = some (r1, r2, r3, r4, r5, r6, r7, r8, r9, r10) := by rw [if_pos rfl] at H; exact H
            clear H
            have H := H1
            clear H1
            replace H := Option.bind_eq_some_iff.mp H
            obtain ⟨⟨t256, t257, t258⟩, A240, H⟩ := H
            replace H : (if t258 = 0 then (if t256 > 1099511627776 then (if 0 ≤ x10_2 then (if x10_2 < (x8_2.length : Int) then (rivuletref23_Get.l0 k2 a0 (x8_2.set (x10_2 : Int).toNat 1099511627777) t257 (wrap64 (x10_2 + 1)) (wrap64 (bt a0 a1)) 0 0 0 ⟨#[]⟩ ⟨#[]⟩ false 0) else (none)) else (none)) else (if 0 ≤ x10_2 then (if x10_2 < (x8_2.length : Int) then (rivuletref23_Get.l0 k2 a0 (x8_2.set (x10_2 : Int).toNat (wrap64 (t256))) t257 (wrap64 (x10_2 + 1)) (wrap64 (bt a0 a1)) 0 0 0 ⟨#[]⟩ ⟨#[]⟩ false 0) else (none)) else (none))) else (some (0, 0, 0, 0, (⟨#[]⟩ : ByteArray), (⟨#[]⟩ : ByteArray), false, 0, 0, t258))) = some (r1, r2, r3, r4, r5, r6, r7, r8, r9, r10) := H
            have A24 := Aside0.mk A240
            clear A240
            by_cases c25 : t258 = 0
            ·rw [if_pos c25] at H
             have c25b0 : (t258 == 0) = true := beq_iff_eq.mpr c25
             have c25b1 : (t258 != 0) = false := bne_eq_false_iff_eq.mpr c25
             clear c25
             by_cases c26 : t256 > 1099511627776
             ·rw [if_pos c26] at H
              have c26b0 : decide (1099511627776 < t256) = true := decide_eq_true c26
              clear c26
              by_cases c27 : 0 ≤ x10_2
              ·rw [if_pos c27] at H
               have c27b0 : decide (0 ≤ x10_2) = true := decide_eq_true c27
               clear c27
               by_cases c28 : x10_2 < (x8_2.length : Int)
               ·rw [if_pos c28] at H
                have c28b0 : decide (x10_2 < (x8_2.length : Int)) = true := decide_eq_true c28
                clear c28
                obtain ⟨y259, hy259⟩ : ∃ y_ : List Int, y_ = (x8_2.set (x10_2 : Int).toNat 1099511627777) := ⟨_, rfl⟩
                replace H : (rivuletref23_Get.l0 k2 a0 y259 t257 (wrap64 (x10_2 + 1)) (wrap64 (bt a0 a1)) 0 0 0 ⟨#[]⟩ ⟨#[]⟩ false 0) = some (r1, r2, r3, r4, r5, r6, r7, r8, r9, r10) := by first | (rw [hy259]; with_reducible exact H) | (have H2_ := (Option.bind_some _ _).symm.trans H; rw [hy259]; with_reducible exact H2_) | (have H2_ := (Option.bind_some _ _).symm.trans H; with_reducible exact H2_) | with_reducible exact H | (rw [hy259]; exact H) | exact H
                have Ny259 := Aside0.mk hy259
                clear hy259
                have H' := Aside0.mk H
                clear H
                have hnb30 := NB237_236.out
                have hnc30 := NB236_237.out
                have hcz31_0 : wr.cell? ⟨gb237, 0, none⟩ = some (.int .i64 (wrap64 (bt a0 a1))) := (blk_cell BK237.out 0).trans rfl
                have hcz31_1 : wr.cell? ⟨gb237, 1, none⟩ = some (.int .i64 0) := (blk_cell BK237.out 1).trans rfl
                have hcz31_2 : wr.cell? ⟨gb237, 2, none⟩ = some (.int .i64 0) := (blk_cell BK237.out 2).trans rfl
                have hcz31_3 : wr.cell? ⟨gb237, 3, none⟩ = some (.int .i64 0) := (blk_cell BK237.out 3).trans rfl
                have hcz31_4 : wr.cell? ⟨gb237, 4, none⟩ = some (.string ⟨#[]⟩) := (blk_cell BK237.out 4).trans rfl
                have hcz31_5 : wr.cell? ⟨gb237, 5, none⟩ = some (.string ⟨#[]⟩) := (blk_cell BK237.out 5).trans rfl
                have hcz31_6 : wr.cell? ⟨gb237, 6, none⟩ = some (.bool false) := (blk_cell BK237.out 6).trans rfl
                have hcz31_7 : wr.cell? ⟨gb237, 7, none⟩ = some (.int .i64 0) := (blk_cell BK237.out 7).trans rfl
                have hfz31_0 := blk_frozen BK237.out 0
                have hfz31_1 := blk_frozen BK237.out 1
                have hfz31_2 := blk_frozen BK237.out 2
                have hfz31_3 := blk_frozen BK237.out 3
                have hfz31_4 := blk_frozen BK237.out 4
                have hfz31_5 := blk_frozen BK237.out 5
                have hfz31_6 := blk_frozen BK237.out 6
                have hfz31_7 := blk_frozen BK237.out 7
                go_wp2_with (first | ((with_reducible refine gate_callee (f := 41) rfl ?_); refine goesL_ (some 48) rfl rfl Tryd.func41 (by kernel_rfl) rfl #[.int .i64 (wrap64 (bt a0 a1)), .int .i64 x10_2] rfl (by (try simp only [List.map_toArray, List.map_cons, List.map_nil]); first | done | rfl | (simp only [List.length_drop, List.length_take]; rfl)) ?_; (with_reducible refine (rivuletref23_Has.calls (wrap64 (bt a0 a1)) x10_2 true _ A22.out).mono ?_); rintro e w32 ⟨rfl, hb⟩; refine ⟨_, rfl, ?_⟩; have n0_ := Aside0.mk (Kd.R_below (by (with_reducible repeat (first | apply Kd.R_alloc | apply Kd.R_drewN | apply Kd.R_drew)); exact HO_8.out) hb); have n1_ := Aside0.mk (blk_below (g := gb236) (o := .cells #[.int .i64 x237000_2, .int .i64 x237001_2, .int .i64 x237002_2, .int .i64 x237003_2, .string x237004_2, .string x237005_2, .bool x237006_2, .int .i64 x237007_2] 23 (0, 0)) (by (with_reducible repeat (first | refine blk_drewN ?_ _ | refine blk_drew ?_ | refine blk_alloc ?_ _)); exact BK236.out) hb); have n2_ := Aside0.mk (blk_below (g := gb237) (o := .cells #[.int .i64 (wrap64 (bt a0 a1)), .int .i64 0, .int .i64 0, .int .i64 0, .string ⟨#[]⟩, .string ⟨#[]⟩, .bool false, .int .i64 0] 23 (0, 0)) (by (with_reducible repeat (first | refine blk_drewN ?_ _ | refine blk_drew ?_ | refine blk_alloc ?_ _)); exact BK237.out) hb); have n3_ := Aside0.mk (below_step (by repeat (first | (with_reducible first | exact HB.out | apply below_alloc | apply pw_below_drewN | apply below_drew1 | refine below_set ?_ GE236.out | refine below_set ?_ GE237.out) | exact HB.out)) hb); clear HO_8; clear BK236; clear BK237; clear HB; have HO_8 := n0_; have BK236 := n1_; have BK237 := n2_; have HB := n3_; clear n0_ n1_ n2_ n3_; (try clear hb); (try clear hb2); (try clear hk); (try clear hi)) | ((with_reducible refine gate_callee (f := 54) rfl ?_); refine goesL_ (some 53) rfl rfl Tryd.func54 (by kernel_rfl) rfl #[.string a0, .int .i64 x9_2] rfl (by (try simp only [List.map_toArray, List.map_cons, List.map_nil]); first | done | rfl | (simp only [List.length_drop, List.length_take]; rfl)) ?_; (with_reducible refine (rivuletref01_Get.calls k2 a0 x9_2 t256 t257 t258 _ A24.out).mono ?_); rintro e w33 ⟨rfl, hb⟩; refine ⟨_, rfl, ?_⟩; have n0_ := Aside0.mk (Kd.R_below (by (with_reducible repeat (first | apply Kd.R_alloc | apply Kd.R_drewN | apply Kd.R_drew)); exact HO_8.out) hb); have n1_ := Aside0.mk (blk_below (g := gb236) (o := .cells #[.int .i64 x237000_2, .int .i64 x237001_2, .int .i64 x237002_2, .int .i64 x237003_2, .string x237004_2, .string x237005_2, .bool x237006_2, .int .i64 x237007_2] 23 (0, 0)) (by (with_reducible repeat (first | refine blk_drewN ?_ _ | refine blk_drew ?_ | refine blk_alloc ?_ _)); exact BK236.out) hb); have n2_ := Aside0.mk (blk_below (g := gb237) (o := .cells #[.int .i64 (wrap64 (bt a0 a1)), .int .i64 0, .int .i64 0, .int .i64 0, .string ⟨#[]⟩, .string ⟨#[]⟩, .bool false, .int .i64 0] 23 (0, 0)) (by (with_reducible repeat (first | refine blk_drewN ?_ _ | refine blk_drew ?_ | refine blk_alloc ?_ _)); exact BK237.out) hb); have n3_ := Aside0.mk (below_step (by repeat (first | (with_reducible first | exact HB.out | apply below_alloc | apply pw_below_drewN | apply below_drew1 | refine below_set ?_ GE236.out | refine below_set ?_ GE237.out) | exact HB.out)) hb); clear HO_8; clear BK236; clear BK237; clear HB; have HO_8 := n0_; have BK236 := n1_; have BK237 := n2_; have HB := n3_; clear n0_ n1_ n2_ n3_; (try clear hb); (try clear hb2); (try clear hk); (try clear hi); have p29 : 0 ≤ (x10_2 : Int) := of_decide_eq_true (by first | (with_reducible assumption) | assumption); have q29 : (x10_2 : Int) < ((x8_2.length : Int) : Int) := of_decide_eq_true (by first | (with_reducible assumption) | assumption); obtain ⟨go29, co29, eo29, gb29, gl29, cl29, HG29⟩ := Kd.R_form HO_8.out (by omega); (first | cases eo29 | (injection eo29 with ea_ en_ ec_; (first | subst ea_ | (injection ea_ with ea_; subst ea_)); subst ec_; clear en_)); have GB29 := Aside0.mk gb29; have GG29 := Aside0.mk HG29; clear gb29 gl29 HG29; obtain ⟨hx29_0, hf29_0⟩ := Kd.R_celln 0 HO_8.out (x10_2 : Int) p29 q29; replace p29 := eq_true p29; replace q29 := eq_true q29; obtain ⟨hy34_, hz34_⟩ := Kd.R_celln 0 HO_8.out (x10_2 : Int) (of_decide_eq_true (by first | (with_reducible assumption) | assumption)) (of_decide_eq_true (by first | (with_reducible assumption) | assumption)); have HP34 := Kd.R_putg HO_8.out (x10_2 : Int) 1099511627777) | ((with_reducible refine gate_store (t := 3) (p := 67) rfl ?_); refine store_event (t := 3) (p := 67) (v := ?vo_w35) (w1 := (w33.setCell ⟨go29, (x10_2 : Int).toNat, none⟩ (.int .i64 1099511627777))) ?hg ?ho ?hn ?hr ?_; (case ho => rfl); (case hg => rfl); (case hn => rfl); (case hr => first | (go_simp; done) | (go_simp; rfl)); intro w35 hw; have hg : w33.grownBy w35 (some go29) := (by rw [hw]; exact HP34.2); have hp_ : Kd.R (Kd.int .i64) 3 w35 w.heap.size (fun _ => True) (.slice (some ⟨go29, 0, none⟩) x8_2.length co29) y259 := (by rw [hw, Ny259.out]; exact HP34.1); clear HP34; have n0_ := Aside0.mk (hp_); have n1_ := Aside0.mk (blk_grown (g := gb236) (o := .cells #[.int .i64 x237000_2, .int .i64 x237001_2, .int .i64 x237002_2, .int .i64 x237003_2, .string x237004_2, .string x237005_2, .bool x237006_2, .int .i64 x237007_2] 23 (0, 0)) (by (with_reducible repeat (first | refine blk_drewN ?_ _ | refine blk_drew ?_ | refine blk_alloc ?_ _)); exact BK236.out) hg (Kd.R_ne HO_8.out BK236.out (by decide))); have n2_ := Aside0.mk (blk_grown (g := gb237) (o := .cells #[.int .i64 (wrap64 (bt a0 a1)), .int .i64 0, .int .i64 0, .int .i64 0, .string ⟨#[]⟩, .string ⟨#[]⟩, .bool false, .int .i64 0] 23 (0, 0)) (by (with_reducible repeat (first | refine blk_drewN ?_ _ | refine blk_drew ?_ | refine blk_alloc ?_ _)); exact BK237.out) hg (Kd.R_ne HO_8.out BK237.out (by decide))); have n3_ := Aside0.mk ((by rw [hw]; exact below_set (HB.out) GB29.out : Below w.heap.size w w35)); clear HO_8; clear BK236; clear BK237; clear HB; have HO_8 := n0_; have BK236 := n1_; have BK237 := n2_; have HB := n3_; clear n0_ n1_ n2_ n3_; clear hg hw hp_))
                go_roundg k2
                case measure => have := HJ2.out; have := HK2.out; omega
                case rel => exact ⟨(y259), (t257), (wrap64 (x10_2 + 1)), (x237000_2), (x237001_2), (x237002_2), (x237003_2), (x237004_2), (x237005_2), (x237006_2), (x237007_2), (by first | rfl | (simp; done) | (simp [*]; done)), (by first | rfl | (simp; done) | (simp [*]; done)), H', ⟨by have := HJ2.out; have := HK2.out; omega⟩, ⟨by (with_reducible repeat (first | apply Kd.R_alloc | apply Kd.R_drewN | apply Kd.R_drew)); exact HO_8.out⟩, ⟨by (with_reducible repeat (first | refine blk_drewN ?_ _ | refine blk_drew ?_ | refine blk_alloc ?_ _)); exact BK236.out⟩, ⟨by (with_reducible repeat (first | refine blk_drewN ?_ _ | refine blk_drew ?_ | refine blk_alloc ?_ _)); exact BK237.out⟩, ⟨by repeat (first | (with_reducible first | exact HB.out | apply below_alloc | apply pw_below_drewN | apply below_drew1 | refine below_set ?_ GE236.out | refine below_set ?_ GE237.out) | exact HB.out)⟩⟩
               ·rw [if_neg c28] at H
                exact absurd H (by simp)
              ·rw [if_neg c27] at H
               exact absurd H (by simp)
             ·rw [if_neg c26] at H
              have c26b0 : decide (1099511627776 < t256) = false := decide_eq_false c26
              clear c26
              by_cases c36 : 0 ≤ x10_2
              ·rw [if_pos c36] at H
               have c36b0 : decide (0 ≤ x10_2) = true := decide_eq_true c36
               clear c36
               by_cases c37 : x10_2 < (x8_2.length : Int)
               ·rw [if_pos c37] at H
                have c37b0 : decide (x10_2 < (x8_2.length : Int)) = true := decide_eq_true c37
                clear c37
                obtain ⟨y260, hy260⟩ : ∃ y_ : List Int, y_ = (x8_2.set (x10_2 : Int).toNat (wrap64 (t256))) := ⟨_, rfl⟩
                replace H : (rivuletref23_Get.l0 k2 a0 y260 t257 (wrap64 (x10_2 + 1)) (wrap64 (bt a0 a1)) 0 0 0 ⟨#[]⟩ ⟨#[]⟩ false 0) = some (r1, r2, r3, r4, r5, r6, r7, r8, r9, r10) := by first | (rw [hy260]; with_reducible exact H) | (have H2_ := (Option.bind_some _ _).symm.trans H; rw [hy260]; with_reducible exact H2_) | (have H2_ := (Option.bind_some _ _).symm.trans H; with_reducible exact H2_) | with_reducible exact H | (rw [hy260]; exact H) | exact H
                have Ny260 := Aside0.mk hy260
                clear hy260
                have H' := Aside0.mk H
                clear H
                have hnb39 := NB237_236.out
                have hnc39 := NB236_237.out
                have hcz40_0 : wr.cell? ⟨gb237, 0, none⟩ = some (.int .i64 (wrap64 (bt a0 a1))) := (blk_cell BK237.out 0).trans rfl
                have hcz40_1 : wr.cell? ⟨gb237, 1, none⟩ = some (.int .i64 0) := (blk_cell BK237.out 1).trans rfl
                have hcz40_2 : wr.cell? ⟨gb237, 2, none⟩ = some (.int .i64 0) := (blk_cell BK237.out 2).trans rfl
                have hcz40_3 : wr.cell? ⟨gb237, 3, none⟩ = some (.int .i64 0) := (blk_cell BK237.out 3).trans rfl
                have hcz40_4 : wr.cell? ⟨gb237, 4, none⟩ = some (.string ⟨#[]⟩) := (blk_cell BK237.out 4).trans rfl
                have hcz40_5 : wr.cell? ⟨gb237, 5, none⟩ = some (.string ⟨#[]⟩) := (blk_cell BK237.out 5).trans rfl
                have hcz40_6 : wr.cell? ⟨gb237, 6, none⟩ = some (.bool false) := (blk_cell BK237.out 6).trans rfl
                have hcz40_7 : wr.cell? ⟨gb237, 7, none⟩ = some (.int .i64 0) := (blk_cell BK237.out 7).trans rfl
                have hfz40_0 := blk_frozen BK237.out 0
                have hfz40_1 := blk_frozen BK237.out 1
                have hfz40_2 := blk_frozen BK237.out 2
                have hfz40_3 := blk_frozen BK237.out 3
                have hfz40_4 := blk_frozen BK237.out 4
                have hfz40_5 := blk_frozen BK237.out 5
                have hfz40_6 := blk_frozen BK237.out 6
                have hfz40_7 := blk_frozen BK237.out 7
                go_wp2_with (first | ((with_reducible refine gate_callee (f := 41) rfl ?_); refine goesL_ (some 48) rfl rfl Tryd.func41 (by kernel_rfl) rfl #[.int .i64 (wrap64 (bt a0 a1)), .int .i64 x10_2] rfl (by (try simp only [List.map_toArray, List.map_cons, List.map_nil]); first | done | rfl | (simp only [List.length_drop, List.length_take]; rfl)) ?_; (with_reducible refine (rivuletref23_Has.calls (wrap64 (bt a0 a1)) x10_2 true _ A22.out).mono ?_); rintro e w41 ⟨rfl, hb⟩; refine ⟨_, rfl, ?_⟩; have n0_ := Aside0.mk (Kd.R_below (by (with_reducible repeat (first | apply Kd.R_alloc | apply Kd.R_drewN | apply Kd.R_drew)); exact HO_8.out) hb); have n1_ := Aside0.mk (blk_below (g := gb236) (o := .cells #[.int .i64 x237000_2, .int .i64 x237001_2, .int .i64 x237002_2, .int .i64 x237003_2, .string x237004_2, .string x237005_2, .bool x237006_2, .int .i64 x237007_2] 23 (0, 0)) (by (with_reducible repeat (first | refine blk_drewN ?_ _ | refine blk_drew ?_ | refine blk_alloc ?_ _)); exact BK236.out) hb); have n2_ := Aside0.mk (blk_below (g := gb237) (o := .cells #[.int .i64 (wrap64 (bt a0 a1)), .int .i64 0, .int .i64 0, .int .i64 0, .string ⟨#[]⟩, .string ⟨#[]⟩, .bool false, .int .i64 0] 23 (0, 0)) (by (with_reducible repeat (first | refine blk_drewN ?_ _ | refine blk_drew ?_ | refine blk_alloc ?_ _)); exact BK237.out) hb); have n3_ := Aside0.mk (below_step (by repeat (first | (with_reducible first | exact HB.out | apply below_alloc | apply pw_below_drewN | apply below_drew1 | refine below_set ?_ GE236.out | refine below_set ?_ GE237.out) | exact HB.out)) hb); clear HO_8; clear BK236; clear BK237; clear HB; have HO_8 := n0_; have BK236 := n1_; have BK237 := n2_; have HB := n3_; clear n0_ n1_ n2_ n3_; (try clear hb); (try clear hb2); (try clear hk); (try clear hi)) | ((with_reducible refine gate_callee (f := 54) rfl ?_); refine goesL_ (some 53) rfl rfl Tryd.func54 (by kernel_rfl) rfl #[.string a0, .int .i64 x9_2] rfl (by (try simp only [List.map_toArray, List.map_cons, List.map_nil]); first | done | rfl | (simp only [List.length_drop, List.length_take]; rfl)) ?_; (with_reducible refine (rivuletref01_Get.calls k2 a0 x9_2 t256 t257 t258 _ A24.out).mono ?_); rintro e w42 ⟨rfl, hb⟩; refine ⟨_, rfl, ?_⟩; have n0_ := Aside0.mk (Kd.R_below (by (with_reducible repeat (first | apply Kd.R_alloc | apply Kd.R_drewN | apply Kd.R_drew)); exact HO_8.out) hb); have n1_ := Aside0.mk (blk_below (g := gb236) (o := .cells #[.int .i64 x237000_2, .int .i64 x237001_2, .int .i64 x237002_2, .int .i64 x237003_2, .string x237004_2, .string x237005_2, .bool x237006_2, .int .i64 x237007_2] 23 (0, 0)) (by (with_reducible repeat (first | refine blk_drewN ?_ _ | refine blk_drew ?_ | refine blk_alloc ?_ _)); exact BK236.out) hb); have n2_ := Aside0.mk (blk_below (g := gb237) (o := .cells #[.int .i64 (wrap64 (bt a0 a1)), .int .i64 0, .int .i64 0, .int .i64 0, .string ⟨#[]⟩, .string ⟨#[]⟩, .bool false, .int .i64 0] 23 (0, 0)) (by (with_reducible repeat (first | refine blk_drewN ?_ _ | refine blk_drew ?_ | refine blk_alloc ?_ _)); exact BK237.out) hb); have n3_ := Aside0.mk (below_step (by repeat (first | (with_reducible first | exact HB.out | apply below_alloc | apply pw_below_drewN | apply below_drew1 | refine below_set ?_ GE236.out | refine below_set ?_ GE237.out) | exact HB.out)) hb); clear HO_8; clear BK236; clear BK237; clear HB; have HO_8 := n0_; have BK236 := n1_; have BK237 := n2_; have HB := n3_; clear n0_ n1_ n2_ n3_; (try clear hb); (try clear hb2); (try clear hk); (try clear hi); have p38 : 0 ≤ (x10_2 : Int) := of_decide_eq_true (by first | (with_reducible assumption) | assumption); have q38 : (x10_2 : Int) < ((x8_2.length : Int) : Int) := of_decide_eq_true (by first | (with_reducible assumption) | assumption); obtain ⟨go38, co38, eo38, gb38, gl38, cl38, HG38⟩ := Kd.R_form HO_8.out (by omega); (first | cases eo38 | (injection eo38 with ea_ en_ ec_; (first | subst ea_ | (injection ea_ with ea_; subst ea_)); subst ec_; clear en_)); have GB38 := Aside0.mk gb38; have GG38 := Aside0.mk HG38; clear gb38 gl38 HG38; obtain ⟨hx38_0, hf38_0⟩ := Kd.R_celln 0 HO_8.out (x10_2 : Int) p38 q38; replace p38 := eq_true p38; replace q38 := eq_true q38; obtain ⟨hy43_, hz43_⟩ := Kd.R_celln 0 HO_8.out (x10_2 : Int) (of_decide_eq_true (by first | (with_reducible assumption) | assumption)) (of_decide_eq_true (by first | (with_reducible assumption) | assumption)); have HP43 := Kd.R_putg HO_8.out (x10_2 : Int) (wrap64 (t256))) | ((with_reducible refine gate_store (t := 3) (p := 67) rfl ?_); refine store_event (t := 3) (p := 67) (v := ?vo_w44) (w1 := (w42.setCell ⟨go38, (x10_2 : Int).toNat, none⟩ (.int .i64 (wrap64 (t256))))) ?hg ?ho ?hn ?hr ?_; (case ho => rfl); (case hg => rfl); (case hn => rfl); (case hr => first | (go_simp; done) | (go_simp; rfl)); intro w44 hw; have hg : w42.grownBy w44 (some go38) := (by rw [hw]; exact HP43.2); have hp_ : Kd.R (Kd.int .i64) 3 w44 w.heap.size (fun _ => True) (.slice (some ⟨go38, 0, none⟩) x8_2.length co38) y260 := (by rw [hw, Ny260.out]; exact HP43.1); clear HP43; have n0_ := Aside0.mk (hp_); have n1_ := Aside0.mk (blk_grown (g := gb236) (o := .cells #[.int .i64 x237000_2, .int .i64 x237001_2, .int .i64 x237002_2, .int .i64 x237003_2, .string x237004_2, .string x237005_2, .bool x237006_2, .int .i64 x237007_2] 23 (0, 0)) (by (with_reducible repeat (first | refine blk_drewN ?_ _ | refine blk_drew ?_ | refine blk_alloc ?_ _)); exact BK236.out) hg (Kd.R_ne HO_8.out BK236.out (by decide))); have n2_ := Aside0.mk (blk_grown (g := gb237) (o := .cells #[.int .i64 (wrap64 (bt a0 a1)), .int .i64 0, .int .i64 0, .int .i64 0, .string ⟨#[]⟩, .string ⟨#[]⟩, .bool false, .int .i64 0] 23 (0, 0)) (by (with_reducible repeat (first | refine blk_drewN ?_ _ | refine blk_drew ?_ | refine blk_alloc ?_ _)); exact BK237.out) hg (Kd.R_ne HO_8.out BK237.out (by decide))); have n3_ := Aside0.mk ((by rw [hw]; exact below_set (HB.out) GB38.out : Below w.heap.size w w44)); clear HO_8; clear BK236; clear BK237; clear HB; have HO_8 := n0_; have BK236 := n1_; have BK237 := n2_; have HB := n3_; clear n0_ n1_ n2_ n3_; clear hg hw hp_))
                go_roundg k2
                case measure => have := HJ2.out; have := HK2.out; omega
                case rel => exact ⟨(y260), (t257), (wrap64 (x10_2 + 1)), (x237000_2), (x237001_2), (x237002_2), (x237003_2), (x237004_2), (x237005_2), (x237006_2), (x237007_2), (by first | rfl | (simp; done) | (simp [*]; done)), (by first | rfl | (simp; done) | (simp [*]; done)), H', ⟨by have := HJ2.out; have := HK2.out; omega⟩, ⟨by (with_reducible repeat (first | apply Kd.R_alloc | apply Kd.R_drewN | apply Kd.R_drew)); exact HO_8.out⟩, ⟨by (with_reducible repeat (first | refine blk_drewN ?_ _ | refine blk_drew ?_ | refine blk_alloc ?_ _)); exact BK236.out⟩, ⟨by (with_reducible repeat (first | refine blk_drewN ?_ _ | refine blk_drew ?_ | refine blk_alloc ?_ _)); exact BK237.out⟩, ⟨by repeat (first | (with_reducible first | exact HB.out | apply below_alloc | apply pw_below_drewN | apply below_drew1 | refine below_set ?_ GE236.out | refine below_set ?_ GE237.out) | exact HB.out)⟩⟩
               ·rw [if_neg c37] at H
                exact absurd H (by simp)
              ·rw [if_neg c36] at H
               exact absurd H (by simp)
            ·rw [if_neg c25] at H
             have c25b0 : (t258 == 0) = false := beq_eq_false_iff_ne.mpr c25
             have c25b1 : (t258 != 0) = true := bne_iff_ne.mpr c25
             simp only [Option.some.injEq, Prod.mk.injEq] at H
             obtain ⟨rfl, rfl, rfl, rfl, rfl, rfl, rfl, rfl, rfl, rfl⟩ := H
             have hnb45 := NB237_236.out
             have hnc45 := NB236_237.out
             have hcz46_0 : wr.cell? ⟨gb237, 0, none⟩ = some (.int .i64 (wrap64 (bt a0 a1))) := (blk_cell BK237.out 0).trans rfl
             have hcz46_1 : wr.cell? ⟨gb237, 1, none⟩ = some (.int .i64 0) := (blk_cell BK237.out 1).trans rfl
             have hcz46_2 : wr.cell? ⟨gb237, 2, none⟩ = some (.int .i64 0) := (blk_cell BK237.out 2).trans rfl
             have hcz46_3 : wr.cell? ⟨gb237, 3, none⟩ = some (.int .i64 0) := (blk_cell BK237.out 3).trans rfl
             have hcz46_4 : wr.cell? ⟨gb237, 4, none⟩ = some (.string ⟨#[]⟩) := (blk_cell BK237.out 4).trans rfl
             have hcz46_5 : wr.cell? ⟨gb237, 5, none⟩ = some (.string ⟨#[]⟩) := (blk_cell BK237.out 5).trans rfl
             have hcz46_6 : wr.cell? ⟨gb237, 6, none⟩ = some (.bool false) := (blk_cell BK237.out 6).trans rfl
             have hcz46_7 : wr.cell? ⟨gb237, 7, none⟩ = some (.int .i64 0) := (blk_cell BK237.out 7).trans rfl
             have hfz46_0 := blk_frozen BK237.out 0
             have hfz46_1 := blk_frozen BK237.out 1
             have hfz46_2 := blk_frozen BK237.out 2
             have hfz46_3 := blk_frozen BK237.out 3
             have hfz46_4 := blk_frozen BK237.out 4
             have hfz46_5 := blk_frozen BK237.out 5
             have hfz46_6 := blk_frozen BK237.out 6
             have hfz46_7 := blk_frozen BK237.out 7
             go_wp2_with (first | ((with_reducible refine gate_callee (f := 41) rfl ?_); refine goesL_ (some 48) rfl rfl Tryd.func41 (by kernel_rfl) rfl #[.int .i64 (wrap64 (bt a0 a1)), .int .i64 x10_2] rfl (by (try simp only [List.map_toArray, List.map_cons, List.map_nil]); first | done | rfl | (simp only [List.length_drop, List.length_take]; rfl)) ?_; (with_reducible refine (rivuletref23_Has.calls (wrap64 (bt a0 a1)) x10_2 true _ A22.out).mono ?_); rintro e w47 ⟨rfl, hb⟩; refine ⟨_, rfl, ?_⟩; have n0_ := Aside0.mk (Kd.R_below (by (with_reducible repeat (first | apply Kd.R_alloc | apply Kd.R_drewN | apply Kd.R_drew)); exact HO_8.out) hb); have n1_ := Aside0.mk (blk_below (g := gb236) (o := .cells #[.int .i64 x237000_2, .int .i64 x237001_2, .int .i64 x237002_2, .int .i64 x237003_2, .string x237004_2, .string x237005_2, .bool x237006_2, .int .i64 x237007_2] 23 (0, 0)) (by (with_reducible repeat (first | refine blk_drewN ?_ _ | refine blk_drew ?_ | refine blk_alloc ?_ _)); exact BK236.out) hb); have n2_ := Aside0.mk (blk_below (g := gb237) (o := .cells #[.int .i64 (wrap64 (bt a0 a1)), .int .i64 0, .int .i64 0, .int .i64 0, .string ⟨#[]⟩, .string ⟨#[]⟩, .bool false, .int .i64 0] 23 (0, 0)) (by (with_reducible repeat (first | refine blk_drewN ?_ _ | refine blk_drew ?_ | refine blk_alloc ?_ _)); exact BK237.out) hb); have n3_ := Aside0.mk (below_step (by repeat (first | (with_reducible first | exact HB.out | apply below_alloc | apply pw_below_drewN | apply below_drew1 | refine below_set ?_ GE236.out | refine below_set ?_ GE237.out) | exact HB.out)) hb); clear HO_8; clear BK236; clear BK237; clear HB; have HO_8 := n0_; have BK236 := n1_; have BK237 := n2_; have HB := n3_; clear n0_ n1_ n2_ n3_; (try clear hb); (try clear hb2); (try clear hk); (try clear hi)) | ((with_reducible refine gate_callee (f := 54) rfl ?_); refine goesL_ (some 53) rfl rfl Tryd.func54 (by kernel_rfl) rfl #[.string a0, .int .i64 x9_2] rfl (by (try simp only [List.map_toArray, List.map_cons, List.map_nil]); first | done | rfl | (simp only [List.length_drop, List.length_take]; rfl)) ?_; (with_reducible refine (rivuletref01_Get.calls k2 a0 x9_2 t256 t257 t258 _ A24.out).mono ?_); rintro e w48 ⟨rfl, hb⟩; refine ⟨_, rfl, ?_⟩; have n0_ := Aside0.mk (Kd.R_below (by (with_reducible repeat (first | apply Kd.R_alloc | apply Kd.R_drewN | apply Kd.R_drew)); exact HO_8.out) hb); have n1_ := Aside0.mk (blk_below (g := gb236) (o := .cells #[.int .i64 x237000_2, .int .i64 x237001_2, .int .i64 x237002_2, .int .i64 x237003_2, .string x237004_2, .string x237005_2, .bool x237006_2, .int .i64 x237007_2] 23 (0, 0)) (by (with_reducible repeat (first | refine blk_drewN ?_ _ | refine blk_drew ?_ | refine blk_alloc ?_ _)); exact BK236.out) hb); have n2_ := Aside0.mk (blk_below (g := gb237) (o := .cells #[.int .i64 (wrap64 (bt a0 a1)), .int .i64 0, .int .i64 0, .int .i64 0, .string ⟨#[]⟩, .string ⟨#[]⟩, .bool false, .int .i64 0] 23 (0, 0)) (by (with_reducible repeat (first | refine blk_drewN ?_ _ | refine blk_drew ?_ | refine blk_alloc ?_ _)); exact BK237.out) hb); have n3_ := Aside0.mk (below_step (by repeat (first | (with_reducible first | exact HB.out | apply below_alloc | apply pw_below_drewN | apply below_drew1 | refine below_set ?_ GE236.out | refine below_set ?_ GE237.out) | exact HB.out)) hb); clear HO_8; clear BK236; clear BK237; clear HB; have HO_8 := n0_; have BK236 := n1_; have BK237 := n2_; have HB := n3_; clear n0_ n1_ n2_ n3_; (try clear hb); (try clear hb2); (try clear hk); (try clear hi); have hcz49_0 : w48.cell? ⟨gb236, 0, none⟩ = some (.int .i64 x237000_2) := (blk_cell BK236.out 0).trans rfl; have hcz49_1 : w48.cell? ⟨gb236, 1, none⟩ = some (.int .i64 x237001_2) := (blk_cell BK236.out 1).trans rfl; have hcz49_2 : w48.cell? ⟨gb236, 2, none⟩ = some (.int .i64 x237002_2) := (blk_cell BK236.out 2).trans rfl; have hcz49_3 : w48.cell? ⟨gb236, 3, none⟩ = some (.int .i64 x237003_2) := (blk_cell BK236.out 3).trans rfl; have hcz49_4 : w48.cell? ⟨gb236, 4, none⟩ = some (.string x237004_2) := (blk_cell BK236.out 4).trans rfl; have hcz49_5 : w48.cell? ⟨gb236, 5, none⟩ = some (.string x237005_2) := (blk_cell BK236.out 5).trans rfl; have hcz49_6 : w48.cell? ⟨gb236, 6, none⟩ = some (.bool x237006_2) := (blk_cell BK236.out 6).trans rfl; have hcz49_7 : w48.cell? ⟨gb236, 7, none⟩ = some (.int .i64 x237007_2) := (blk_cell BK236.out 7).trans rfl; have hfz49_0 := blk_frozen BK236.out 0; have hfz49_1 := blk_frozen BK236.out 1; have hfz49_2 := blk_frozen BK236.out 2; have hfz49_3 := blk_frozen BK236.out 3; have hfz49_4 := blk_frozen BK236.out 4; have hfz49_5 := blk_frozen BK236.out 5; have hfz49_6 := blk_frozen BK236.out 6; have hfz49_7 := blk_frozen BK236.out 7))
             refine bodyPost_ret (results_ctt rfl _ _ gb236 23 #[.int .i64 0, .int .i64 0, .int .i64 0, .int .i64 0, .string ⟨#[]⟩, .string ⟨#[]⟩, .bool false, .int .i64 0] (0, 0) _ rfl (by (with_reducible repeat (first | refine blk_drewN ?_ _ | refine blk_drew ?_ | refine blk_alloc ?_ _)); refine blk_put (cs := #[.int .i64 0, .int .i64 0, .int .i64 0, .int .i64 0, .string ⟨#[]⟩, .string ⟨#[]⟩, .bool false, .int .i64 x237007_2]) ?_ 7 _ rfl; (with_reducible repeat (first | refine blk_drewN ?_ _ | refine blk_drew ?_ | refine blk_alloc ?_ _)); refine blk_put (cs := #[.int .i64 0, .int .i64 0, .int .i64 0, .int .i64 0, .string ⟨#[]⟩, .string ⟨#[]⟩, .bool x237006_2, .int .i64 x237007_2]) ?_ 6 _ rfl; (with_reducible repeat (first | refine blk_drewN ?_ _ | refine blk_drew ?_ | refine blk_alloc ?_ _)); refine blk_put (cs := #[.int .i64 0, .int .i64 0, .int .i64 0, .int .i64 0, .string ⟨#[]⟩, .string x237005_2, .bool x237006_2, .int .i64 x237007_2]) ?_ 5 _ rfl; (with_reducible repeat (first | refine blk_drewN ?_ _ | refine blk_drew ?_ | refine blk_alloc ?_ _)); refine blk_put (cs := #[.int .i64 0, .int .i64 0, .int .i64 0, .int .i64 0, .string x237004_2, .string x237005_2, .bool x237006_2, .int .i64 x237007_2]) ?_ 4 _ rfl; (with_reducible repeat (first | refine blk_drewN ?_ _ | refine blk_drew ?_ | refine blk_alloc ?_ _)); refine blk_put (cs := #[.int .i64 0, .int .i64 0, .int .i64 0, .int .i64 x237003_2, .string x237004_2, .string x237005_2, .bool x237006_2, .int .i64 x237007_2]) ?_ 3 _ rfl; (with_reducible repeat (first | refine blk_drewN ?_ _ | refine blk_drew ?_ | refine blk_alloc ?_ _)); refine blk_put (cs := #[.int .i64 0, .int .i64 0, .int .i64 x237002_2, .int .i64 x237003_2, .string x237004_2, .string x237005_2, .bool x237006_2, .int .i64 x237007_2]) ?_ 2 _ rfl; (with_reducible repeat (first | refine blk_drewN ?_ _ | refine blk_drew ?_ | refine blk_alloc ?_ _)); refine blk_put (cs := #[.int .i64 0, .int .i64 x237001_2, .int .i64 x237002_2, .int .i64 x237003_2, .string x237004_2, .string x237005_2, .bool x237006_2, .int .i64 x237007_2]) ?_ 1 _ rfl; (with_reducible repeat (first | refine blk_drewN ?_ _ | refine blk_drew ?_ | refine blk_alloc ?_ _)); refine blk_put (cs := #[.int .i64 x237000_2, .int .i64 x237001_2, .int .i64 x237002_2, .int .i64 x237003_2, .string x237004_2, .string x237005_2, .bool x237006_2, .int .i64 x237007_2]) ?_ 0 _ rfl; (with_reducible repeat (first | refine blk_drewN ?_ _ | refine blk_drew ?_ | refine blk_alloc ?_ _)); exact BK236.out) Tryd.underlying23 rfl (by kernel_rfl)) rfl ?_
             exact ⟨by first | rfl | (simp [errW_none, errW_some] <;> rfl) | (simp [*, errW_none, errW_some] <;> rfl), by repeat (first | (with_reducible first | exact HB.out | apply below_alloc | apply pw_below_drewN | apply below_drew1 | refine below_set ?_ GE236.out | refine below_set ?_ GE237.out) | exact HB.out)⟩
           ·replace c23 := Bool.eq_false_iff.mpr c23
            subst c23
            have H1 : (rivuletref23_Get.l0 k2 a0 x8_2 x9_2 (wrap64 (x10_2 + 1)) (wrap64 (bt a0 a1)) 0 0 0 ⟨#[]⟩ ⟨#[]⟩ false 0) = some (r1, r2, r3, r4, r5, r6, r7, r8, r9, r10) := by rw [if_neg (show ¬ (false = true) by decide)] at H; exact H
            clear H
            have H := H1
            clear H1
            have H' := Aside0.mk H
            clear H
            have hnb50 := NB237_236.out
            have hnc50 := NB236_237.out
            have hcz51_0 : wr.cell? ⟨gb237, 0, none⟩ = some (.int .i64 (wrap64 (bt a0 a1))) := (blk_cell BK237.out 0).trans rfl
            have hcz51_1 : wr.cell? ⟨gb237, 1, none⟩ = some (.int .i64 0) := (blk_cell BK237.out 1).trans rfl
            have hcz51_2 : wr.cell? ⟨gb237, 2, none⟩ = some (.int .i64 0) := (blk_cell BK237.out 2).trans rfl
            have hcz51_3 : wr.cell? ⟨gb237, 3, none⟩ = some (.int .i64 0) := (blk_cell BK237.out 3).trans rfl
            have hcz51_4 : wr.cell? ⟨gb237, 4, none⟩ = some (.string ⟨#[]⟩) := (blk_cell BK237.out 4).trans rfl
            have hcz51_5 : wr.cell? ⟨gb237, 5, none⟩ = some (.string ⟨#[]⟩) := (blk_cell BK237.out 5).trans rfl
            have hcz51_6 : wr.cell? ⟨gb237, 6, none⟩ = some (.bool false) := (blk_cell BK237.out 6).trans rfl
            have hcz51_7 : wr.cell? ⟨gb237, 7, none⟩ = some (.int .i64 0) := (blk_cell BK237.out 7).trans rfl
            have hfz51_0 := blk_frozen BK237.out 0
            have hfz51_1 := blk_frozen BK237.out 1
            have hfz51_2 := blk_frozen BK237.out 2
            have hfz51_3 := blk_frozen BK237.out 3
            have hfz51_4 := blk_frozen BK237.out 4
            have hfz51_5 := blk_frozen BK237.out 5
            have hfz51_6 := blk_frozen BK237.out 6
            have hfz51_7 := blk_frozen BK237.out 7
            go_wp2_with (first | ((with_reducible refine gate_callee (f := 41) rfl ?_); refine goesL_ (some 48) rfl rfl Tryd.func41 (by kernel_rfl) rfl #[.int .i64 (wrap64 (bt a0 a1)), .int .i64 x10_2] rfl (by (try simp only [List.map_toArray, List.map_cons, List.map_nil]); first | done | rfl | (simp only [List.length_drop, List.length_take]; rfl)) ?_; (with_reducible refine (rivuletref23_Has.calls (wrap64 (bt a0 a1)) x10_2 false _ A22.out).mono ?_); rintro e w52 ⟨rfl, hb⟩; refine ⟨_, rfl, ?_⟩; have n0_ := Aside0.mk (Kd.R_below (by (with_reducible repeat (first | apply Kd.R_alloc | apply Kd.R_drewN | apply Kd.R_drew)); exact HO_8.out) hb); have n1_ := Aside0.mk (blk_below (g := gb236) (o := .cells #[.int .i64 x237000_2, .int .i64 x237001_2, .int .i64 x237002_2, .int .i64 x237003_2, .string x237004_2, .string x237005_2, .bool x237006_2, .int .i64 x237007_2] 23 (0, 0)) (by (with_reducible repeat (first | refine blk_drewN ?_ _ | refine blk_drew ?_ | refine blk_alloc ?_ _)); exact BK236.out) hb); have n2_ := Aside0.mk (blk_below (g := gb237) (o := .cells #[.int .i64 (wrap64 (bt a0 a1)), .int .i64 0, .int .i64 0, .int .i64 0, .string ⟨#[]⟩, .string ⟨#[]⟩, .bool false, .int .i64 0] 23 (0, 0)) (by (with_reducible repeat (first | refine blk_drewN ?_ _ | refine blk_drew ?_ | refine blk_alloc ?_ _)); exact BK237.out) hb); have n3_ := Aside0.mk (below_step (by repeat (first | (with_reducible first | exact HB.out | apply below_alloc | apply pw_below_drewN | apply below_drew1 | refine below_set ?_ GE236.out | refine below_set ?_ GE237.out) | exact HB.out)) hb); clear HO_8; clear BK236; clear BK237; clear HB; have HO_8 := n0_; have BK236 := n1_; have BK237 := n2_; have HB := n3_; clear n0_ n1_ n2_ n3_; (try clear hb); (try clear hb2); (try clear hk); (try clear hi)))
            go_roundg k2
            case measure => have := HJ2.out; have := HK2.out; omega
            case rel => exact ⟨(x8_2), (x9_2), (wrap64 (x10_2 + 1)), (x237000_2), (x237001_2), (x237002_2), (x237003_2), (x237004_2), (x237005_2), (x237006_2), (x237007_2), (by first | rfl | (simp; done) | (simp [*]; done)), (by first | rfl | (simp; done) | (simp [*]; done)), H', ⟨by have := HJ2.out; have := HK2.out; omega⟩, ⟨by (with_reducible repeat (first | apply Kd.R_alloc | apply Kd.R_drewN | apply Kd.R_drew)); exact HO_8.out⟩, ⟨by (with_reducible repeat (first | refine blk_drewN ?_ _ | refine blk_drew ?_ | refine blk_alloc ?_ _)); exact BK236.out⟩, ⟨by (with_reducible repeat (first | refine blk_drewN ?_ _ | refine blk_drew ?_ | refine blk_alloc ?_ _)); exact BK237.out⟩, ⟨by repeat (first | (with_reducible first | exact HB.out | apply below_alloc | apply pw_below_drewN | apply below_drew1 | refine below_set ?_ GE236.out | refine below_set ?_ GE237.out) | exact HB.out)⟩⟩
          ·rw [if_neg c21] at H
           have c21b0 : decide (x10_2 < 4) = false := decide_eq_false c21
           clear c21
           by_cases c53 : 0 < (x8_2.length : Int)
           ·rw [if_pos c53] at H
            have c53b0 : decide (0 < (x8_2.length : Int)) = true := decide_eq_true c53
            have c53b1 : decide (0 < x8_2.length) = true := decide_eq_true (by omega)
            clear c53
            by_cases c54 : 1 < (x8_2.length : Int)
            ·rw [if_pos c54] at H
             have c54b0 : decide (1 < (x8_2.length : Int)) = true := decide_eq_true c54
             have c54b1 : decide (1 < x8_2.length) = true := decide_eq_true (by omega)
             clear c54
             by_cases c55 : 2 < (x8_2.length : Int)
             ·rw [if_pos c55] at H
              have c55b0 : decide (2 < (x8_2.length : Int)) = true := decide_eq_true c55
              have c55b1 : decide (2 < x8_2.length) = true := decide_eq_true (by omega)
              clear c55
              by_cases c56 : 3 < (x8_2.length : Int)
              ·rw [if_pos c56] at H
               have c56b0 : decide (3 < (x8_2.length : Int)) = true := decide_eq_true c56
               have c56b1 : decide (3 < x8_2.length) = true := decide_eq_true (by omega)
               clear c56
               replace H := Option.bind_eq_some_iff.mp H
               obtain ⟨⟨t245, t246, t247, t248, t249, t250, t251, t252, t253, t254⟩, A570, H⟩ := H
               replace H : (some (t245, t246, t247, t248, t249, t250, t251, t252, t253, t254)) = some (r1, r2, r3, r4, r5, r6, r7, r8, r9, r10) := H
               have A57 := Aside0.mk A570
               clear A570
               simp only [Option.some.injEq, Prod.mk.injEq] at H
               obtain ⟨rfl, rfl, rfl, rfl, rfl, rfl, rfl, rfl, rfl, rfl⟩ := H
               obtain ⟨Ao58, co58, eo58⟩ := Kd.R_slice HO_8.out
               subst eo58
               have p241 : 0 ≤ (0 : Int) := (by omega)
               have q241 : 0 < (x8_2.length : Int) := of_decide_eq_true (by first | (with_reducible assumption) | assumption)
               obtain ⟨ad241, e241, hx241_0⟩ := Kd.at_int (Kd.R_reads' HO_8.out).2.2 0 p241 q241
               cases e241
               have qi241 : (0 < x8_2.length) = True := eq_true (by omega)
               (try rw [show ((0 : Int)).toNat = 0 from rfl] at hx241_0)
               (try rw [Addr.add_zero'] at hx241_0)
               replace p241 := eq_true p241
               replace q241 := eq_true q241
               have hnb59 := NB237_236.out
               have hnc59 := NB236_237.out
               have hcz60_0 : wr.cell? ⟨gb237, 0, none⟩ = some (.int .i64 (wrap64 (bt a0 a1))) := (blk_cell BK237.out 0).trans rfl
               have hcz60_1 : wr.cell? ⟨gb237, 1, none⟩ = some (.int .i64 0) := (blk_cell BK237.out 1).trans rfl
               have hcz60_2 : wr.cell? ⟨gb237, 2, none⟩ = some (.int .i64 0) := (blk_cell BK237.out 2).trans rfl
               have hcz60_3 : wr.cell? ⟨gb237, 3, none⟩ = some (.int .i64 0) := (blk_cell BK237.out 3).trans rfl
               have hcz60_4 : wr.cell? ⟨gb237, 4, none⟩ = some (.string ⟨#[]⟩) := (blk_cell BK237.out 4).trans rfl
               have hcz60_5 : wr.cell? ⟨gb237, 5, none⟩ = some (.string ⟨#[]⟩) := (blk_cell BK237.out 5).trans rfl
               have hcz60_6 : wr.cell? ⟨gb237, 6, none⟩ = some (.bool false) := (blk_cell BK237.out 6).trans rfl
               have hcz60_7 : wr.cell? ⟨gb237, 7, none⟩ = some (.int .i64 0) := (blk_cell BK237.out 7).trans rfl
               have hfz60_0 := blk_frozen BK237.out 0
               have hfz60_1 := blk_frozen BK237.out 1
               have hfz60_2 := blk_frozen BK237.out 2
               have hfz60_3 := blk_frozen BK237.out 3
               have hfz60_4 := blk_frozen BK237.out 4
               have hfz60_5 := blk_frozen BK237.out 5
               have hfz60_6 := blk_frozen BK237.out 6
               have hfz60_7 := blk_frozen BK237.out 7
               have p242 : 0 ≤ (1 : Int) := (by omega)
               have q242 : 1 < (x8_2.length : Int) := of_decide_eq_true (by first | (with_reducible assumption) | assumption)
               obtain ⟨ad242, e242, hx242_0⟩ := Kd.at_int (Kd.R_reads' HO_8.out).2.2 1 p242 q242
               obtain rfl : ad241 = ad242 := (by injection e242)
               (try simp only [show (1 : Int).toNat = 1 from rfl, Nat.reduceMul, Nat.reduceEqDiff, Go.Addr.add, ↓reduceIte] at hx242_0)
               have qi242 : (1 < x8_2.length) = True := eq_true (by omega)
               (try rw [show ((1 : Int)).toNat = 1 from rfl] at hx242_0)
               have hn242_0 : ad241.block ≠ gb237 := Kd.own_blk (Kd.R_ne HO_8.out BK237.out (by decide))
               replace hx242_0 := (cell_far (p := ⟨gb237, 1, none⟩) (by first | (rw [add_block]; exact hn242_0) | (show (Addr.add _ _).block ≠ _; rw [add_block]; exact hn242_0) | exact hn242_0) (.int .i64 (rd x8_2 0))).trans hx242_0
               clear hn242_0
               replace p242 := eq_true p242
               replace q242 := eq_true q242
               have p243 : 0 ≤ (2 : Int) := (by omega)
               have q243 : 2 < (x8_2.length : Int) := of_decide_eq_true (by first | (with_reducible assumption) | assumption)
               obtain ⟨ad243, e243, hx243_0⟩ := Kd.at_int (Kd.R_reads' HO_8.out).2.2 2 p243 q243
               obtain rfl : ad241 = ad243 := (by injection e243)
               (try simp only [show (2 : Int).toNat = 2 from rfl, Nat.reduceMul, Nat.reduceEqDiff, Go.Addr.add, ↓reduceIte] at hx243_0)
               have qi243 : (2 < x8_2.length) = True := eq_true (by omega)
               (try rw [show ((2 : Int)).toNat = 2 from rfl] at hx243_0)
               have hn243_0 : ad241.block ≠ gb237 := Kd.own_blk (Kd.R_ne HO_8.out BK237.out (by decide))
               have hn243_1 : ad241.block ≠ gb237 := Kd.own_blk (Kd.R_ne HO_8.out BK237.out (by decide))
               replace hx243_0 := (cell_far (p := ⟨gb237, 1, none⟩) (by first | (rw [add_block]; exact hn243_0) | (show (Addr.add _ _).block ≠ _; rw [add_block]; exact hn243_0) | exact hn243_0) (.int .i64 (rd x8_2 0))).trans hx243_0
               replace hx243_0 := (cell_far (p := ⟨gb237, 2, none⟩) (by first | (rw [add_block]; exact hn243_1) | (show (Addr.add _ _).block ≠ _; rw [add_block]; exact hn243_1) | exact hn243_1) (.int .i64 (rd x8_2 1))).trans hx243_0
               clear hn243_0
               clear hn243_1
               replace p243 := eq_true p243
               replace q243 := eq_true q243
               have p244 : 0 ≤ (3 : Int) := (by omega)
               have q244 : 3 < (x8_2.length : Int) := of_decide_eq_true (by first | (with_reducible assumption) | assumption)
               obtain ⟨ad244, e244, hx244_0⟩ := Kd.at_int (Kd.R_reads' HO_8.out).2.2 3 p244 q244
               obtain rfl : ad241 = ad244 := (by injection e244)
               (try simp only [show (3 : Int).toNat = 3 from rfl, Nat.reduceMul, Nat.reduceEqDiff, Go.Addr.add, ↓reduceIte] at hx244_0)
               have qi244 : (3 < x8_2.length) = True := eq_true (by omega)
               (try rw [show ((3 : Int)).toNat = 3 from rfl] at hx244_0)
               have hn244_0 : ad241.block ≠ gb237 := Kd.own_blk (Kd.R_ne HO_8.out BK237.out (by decide))
               have hn244_1 : ad241.block ≠ gb237 := Kd.own_blk (Kd.R_ne HO_8.out BK237.out (by decide))
               have hn244_2 : ad241.block ≠ gb237 := Kd.own_blk (Kd.R_ne HO_8.out BK237.out (by decide))
               replace hx244_0 := (cell_far (p := ⟨gb237, 1, none⟩) (by first | (rw [add_block]; exact hn244_0) | (show (Addr.add _ _).block ≠ _; rw [add_block]; exact hn244_0) | exact hn244_0) (.int .i64 (rd x8_2 0))).trans hx244_0
               replace hx244_0 := (cell_far (p := ⟨gb237, 2, none⟩) (by first | (rw [add_block]; exact hn244_1) | (show (Addr.add _ _).block ≠ _; rw [add_block]; exact hn244_1) | exact hn244_1) (.int .i64 (rd x8_2 1))).trans hx244_0
               replace hx244_0 := (cell_far (p := ⟨gb237, 3, none⟩) (by first | (rw [add_block]; exact hn244_2) | (show (Addr.add _ _).block ≠ _; rw [add_block]; exact hn244_2) | exact hn244_2) (.int .i64 (rd x8_2 2))).trans hx244_0
               clear hn244_0
               clear hn244_1
               clear hn244_2
               replace p244 := eq_true p244
               replace q244 := eq_true q244
               go_wp2_with (first | ((with_reducible refine gate_callee (f := 55) rfl ?_); refine goesL_ (some 88) rfl rfl Tryd.func55 (by kernel_rfl) rfl #[.agg #[.int .i64 (wrap64 (bt a0 a1)), .int .i64 (rd x8_2 0), .int .i64 (rd x8_2 1), .int .i64 (rd x8_2 2), .string ⟨#[]⟩, .string ⟨#[]⟩, .bool false, .int .i64 (rd x8_2 3)], .string a0, .int .i64 x9_2] rfl (by (try simp only [List.map_toArray, List.map_cons, List.map_nil]); first | done | rfl | (simp only [List.length_drop, List.length_take]; rfl)) ?_; (with_reducible refine (rivuletref23_rest.calls k2 (wrap64 (bt a0 a1)) (rd x8_2 0) (rd x8_2 1) (rd x8_2 2) ⟨#[]⟩ ⟨#[]⟩ false (rd x8_2 3) a0 x9_2 t245 t246 t247 t248 t249 t250 t251 t252 t253 t254 _ A57.out).mono ?_); rintro e w61 ⟨rfl, hb⟩; refine ⟨_, rfl, ?_⟩; have n0_ := Aside0.mk (Kd.R_below (by (with_reducible repeat (first | apply Kd.R_alloc | apply Kd.R_drewN | apply Kd.R_drew)); exact (Kd.R_mono (Kd.R_far (p := ⟨gb237, 7, none⟩) (Kd.R_far (p := ⟨gb237, 3, none⟩) (Kd.R_far (p := ⟨gb237, 2, none⟩) (Kd.R_far (p := ⟨gb237, 1, none⟩) (Kd.R_types HO_8.out BK237.out (by decide)) (fun _ hk => hk.2) (.int .i64 (rd x8_2 0))) (fun _ hk => hk.2) (.int .i64 (rd x8_2 1))) (fun _ hk => hk.2) (.int .i64 (rd x8_2 2))) (fun _ hk => hk.2) (.int .i64 (rd x8_2 3))) (fun _ h_ => h_.1))) hb); have n1_ := Aside0.mk (blk_below (g := gb236) (o := .cells #[.int .i64 x237000_2, .int .i64 x237001_2, .int .i64 x237002_2, .int .i64 x237003_2, .string x237004_2, .string x237005_2, .bool x237006_2, .int .i64 x237007_2] 23 (0, 0)) (by (with_reducible repeat (first | refine blk_drewN ?_ _ | refine blk_drew ?_ | refine blk_alloc ?_ _)); refine blk_far ?_ NB236_237.out _; (with_reducible repeat (first | refine blk_drewN ?_ _ | refine blk_drew ?_ | refine blk_alloc ?_ _)); refine blk_far ?_ NB236_237.out _; (with_reducible repeat (first | refine blk_drewN ?_ _ | refine blk_drew ?_ | refine blk_alloc ?_ _)); refine blk_far ?_ NB236_237.out _; (with_reducible repeat (first | refine blk_drewN ?_ _ | refine blk_drew ?_ | refine blk_alloc ?_ _)); refine blk_far ?_ NB236_237.out _; (with_reducible repeat (first | refine blk_drewN ?_ _ | refine blk_drew ?_ | refine blk_alloc ?_ _)); exact BK236.out) hb); have n2_ := Aside0.mk (blk_below (g := gb237) (o := .cells #[.int .i64 (wrap64 (bt a0 a1)), .int .i64 (rd x8_2 0), .int .i64 (rd x8_2 1), .int .i64 (rd x8_2 2), .string ⟨#[]⟩, .string ⟨#[]⟩, .bool false, .int .i64 (rd x8_2 3)] 23 (0, 0)) (by (with_reducible repeat (first | refine blk_drewN ?_ _ | refine blk_drew ?_ | refine blk_alloc ?_ _)); refine blk_put (cs := #[.int .i64 (wrap64 (bt a0 a1)), .int .i64 (rd x8_2 0), .int .i64 (rd x8_2 1), .int .i64 (rd x8_2 2), .string ⟨#[]⟩, .string ⟨#[]⟩, .bool false, .int .i64 0]) ?_ 7 _ rfl; (with_reducible repeat (first | refine blk_drewN ?_ _ | refine blk_drew ?_ | refine blk_alloc ?_ _)); refine blk_put (cs := #[.int .i64 (wrap64 (bt a0 a1)), .int .i64 (rd x8_2 0), .int .i64 (rd x8_2 1), .int .i64 0, .string ⟨#[]⟩, .string ⟨#[]⟩, .bool false, .int .i64 0]) ?_ 3 _ rfl; (with_reducible repeat (first | refine blk_drewN ?_ _ | refine blk_drew ?_ | refine blk_alloc ?_ _)); refine blk_put (cs := #[.int .i64 (wrap64 (bt a0 a1)), .int .i64 (rd x8_2 0), .int .i64 0, .int .i64 0, .string ⟨#[]⟩, .string ⟨#[]⟩, .bool false, .int .i64 0]) ?_ 2 _ rfl; (with_reducible repeat (first | refine blk_drewN ?_ _ | refine blk_drew ?_ | refine blk_alloc ?_ _)); refine blk_put (cs := #[.int .i64 (wrap64 (bt a0 a1)), .int .i64 0, .int .i64 0, .int .i64 0, .string ⟨#[]⟩, .string ⟨#[]⟩, .bool false, .int .i64 0]) ?_ 1 _ rfl; (with_reducible repeat (first | refine blk_drewN ?_ _ | refine blk_drew ?_ | refine blk_alloc ?_ _)); exact BK237.out) hb); have n3_ := Aside0.mk (below_step (by repeat (first | (with_reducible first | exact HB.out | apply below_alloc | apply pw_below_drewN | apply below_drew1 | refine below_set ?_ GE236.out | refine below_set ?_ GE237.out) | exact HB.out)) hb); clear HO_8; clear BK236; clear BK237; clear HB; have HO_8 := n0_; have BK236 := n1_; have BK237 := n2_; have HB := n3_; clear n0_ n1_ n2_ n3_; (try clear hb); (try clear hb2); (try clear hk); (try clear hi); have hcz62_0 : w61.cell? ⟨gb236, 0, none⟩ = some (.int .i64 x237000_2) := (blk_cell BK236.out 0).trans rfl; have hcz62_1 : w61.cell? ⟨gb236, 1, none⟩ = some (.int .i64 x237001_2) := (blk_cell BK236.out 1).trans rfl; have hcz62_2 : w61.cell? ⟨gb236, 2, none⟩ = some (.int .i64 x237002_2) := (blk_cell BK236.out 2).trans rfl; have hcz62_3 : w61.cell? ⟨gb236, 3, none⟩ = some (.int .i64 x237003_2) := (blk_cell BK236.out 3).trans rfl; have hcz62_4 : w61.cell? ⟨gb236, 4, none⟩ = some (.string x237004_2) := (blk_cell BK236.out 4).trans rfl; have hcz62_5 : w61.cell? ⟨gb236, 5, none⟩ = some (.string x237005_2) := (blk_cell BK236.out 5).trans rfl; have hcz62_6 : w61.cell? ⟨gb236, 6, none⟩ = some (.bool x237006_2) := (blk_cell BK236.out 6).trans rfl; have hcz62_7 : w61.cell? ⟨gb236, 7, none⟩ = some (.int .i64 x237007_2) := (blk_cell BK236.out 7).trans rfl; have hfz62_0 := blk_frozen BK236.out 0; have hfz62_1 := blk_frozen BK236.out 1; have hfz62_2 := blk_frozen BK236.out 2; have hfz62_3 := blk_frozen BK236.out 3; have hfz62_4 := blk_frozen BK236.out 4; have hfz62_5 := blk_frozen BK236.out 5; have hfz62_6 := blk_frozen BK236.out 6; have hfz62_7 := blk_frozen BK236.out 7))
               refine bodyPost_ret (results_ctt rfl _ _ gb236 23 #[.int .i64 t245, .int .i64 t246, .int .i64 t247, .int .i64 t248, .string t249, .string t250, .bool t251, .int .i64 t252] (0, 0) _ rfl (by (with_reducible repeat (first | refine blk_drewN ?_ _ | refine blk_drew ?_ | refine blk_alloc ?_ _)); refine blk_put (cs := #[.int .i64 t245, .int .i64 t246, .int .i64 t247, .int .i64 t248, .string t249, .string t250, .bool t251, .int .i64 x237007_2]) ?_ 7 _ rfl; (with_reducible repeat (first | refine blk_drewN ?_ _ | refine blk_drew ?_ | refine blk_alloc ?_ _)); refine blk_put (cs := #[.int .i64 t245, .int .i64 t246, .int .i64 t247, .int .i64 t248, .string t249, .string t250, .bool x237006_2, .int .i64 x237007_2]) ?_ 6 _ rfl; (with_reducible repeat (first | refine blk_drewN ?_ _ | refine blk_drew ?_ | refine blk_alloc ?_ _)); refine blk_put (cs := #[.int .i64 t245, .int .i64 t246, .int .i64 t247, .int .i64 t248, .string t249, .string x237005_2, .bool x237006_2, .int .i64 x237007_2]) ?_ 5 _ rfl; (with_reducible repeat (first | refine blk_drewN ?_ _ | refine blk_drew ?_ | refine blk_alloc ?_ _)); refine blk_put (cs := #[.int .i64 t245, .int .i64 t246, .int .i64 t247, .int .i64 t248, .string x237004_2, .string x237005_2, .bool x237006_2, .int .i64 x237007_2]) ?_ 4 _ rfl; (with_reducible repeat (first | refine blk_drewN ?_ _ | refine blk_drew ?_ | refine blk_alloc ?_ _)); refine blk_put (cs := #[.int .i64 t245, .int .i64 t246, .int .i64 t247, .int .i64 x237003_2, .string x237004_2, .string x237005_2, .bool x237006_2, .int .i64 x237007_2]) ?_ 3 _ rfl; (with_reducible repeat (first | refine blk_drewN ?_ _ | refine blk_drew ?_ | refine blk_alloc ?_ _)); refine blk_put (cs := #[.int .i64 t245, .int .i64 t246, .int .i64 x237002_2, .int .i64 x237003_2, .string x237004_2, .string x237005_2, .bool x237006_2, .int .i64 x237007_2]) ?_ 2 _ rfl; (with_reducible repeat (first | refine blk_drewN ?_ _ | refine blk_drew ?_ | refine blk_alloc ?_ _)); refine blk_put (cs := #[.int .i64 t245, .int .i64 x237001_2, .int .i64 x237002_2, .int .i64 x237003_2, .string x237004_2, .string x237005_2, .bool x237006_2, .int .i64 x237007_2]) ?_ 1 _ rfl; (with_reducible repeat (first | refine blk_drewN ?_ _ | refine blk_drew ?_ | refine blk_alloc ?_ _)); refine blk_put (cs := #[.int .i64 x237000_2, .int .i64 x237001_2, .int .i64 x237002_2, .int .i64 x237003_2, .string x237004_2, .string x237005_2, .bool x237006_2, .int .i64 x237007_2]) ?_ 0 _ rfl; (with_reducible repeat (first | refine blk_drewN ?_ _ | refine blk_drew ?_ | refine blk_alloc ?_ _)); exact BK236.out) Tryd.underlying23 rfl (by kernel_rfl)) rfl ?_
               exact ⟨by first | rfl | (simp [errW_none, errW_some] <;> rfl) | (simp [*, errW_none, errW_some] <;> rfl), by repeat (first | (with_reducible first | exact HB.out | apply below_alloc | apply pw_below_drewN | apply below_drew1 | refine below_set ?_ GE236.out | refine below_set ?_ GE237.out) | exact HB.out)⟩
              ·rw [if_neg c56] at H
               exact absurd H (by simp)
             ·rw [if_neg c55] at H
              exact absurd H (by simp)
            ·rw [if_neg c54] at H
             exact absurd H (by simp)
           ·rw [if_neg c53] at H
            exact absurd H (by simp)
      ·rw [if_neg c11] at H
       exact absurd H (by simp)
     ·rw [if_neg c10] at H
      exact absurd H (by simp)
end Go.Proofs.YtjjimkmbbifbjaaDoor.Pv
end
