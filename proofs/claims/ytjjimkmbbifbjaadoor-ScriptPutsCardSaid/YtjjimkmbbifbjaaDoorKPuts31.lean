import Derived.Test.YtjjimkmbbifbjaaDoorKPuts13
import Derived.Test.YtjjimkmbbifbjaaDoorKPuts14
import Derived.Test.YtjjimkmbbifbjaaDoorKPuts19
import Derived.Test.YtjjimkmbbifbjaaDoorKPuts20
section
namespace Go.Proofs.YtjjimkmbbifbjaaDoor.Pv
open Go.RowKit Go.Proofs.YtjjimkmbbifbjaaDoorW.PrintWords Go.Proofs.YtjjimkmbbifbjaaDoorW.PrintLast Go.Proofs.YtjjimkmbbifbjaaDoorW.PrintMore
attribute [local go_sem] max2_int min2_int max_two min_two max_three min_three max_four min_four
set_option linter.unusedVariables false
set_option linter.unusedSimpArgs false
def rivuletref23_numbers.f (a0_0 : Int) (a0_1 : Int) (a0_2 : Int) (a0_3 : Int) (a0_4 : ByteArray) (a0_5 : ByteArray) (a0_6 : Bool) (a0_7 : Int) : Option (List Int) := some (([a0_1, a0_2, a0_3, a0_7] : List Int))
set_option maxHeartbeats 8000000 in
set_option maxRecDepth 100000 in
theorem rivuletref23_numbers.calls (a0_0 : Int) (a0_1 : Int) (a0_2 : Int) (a0_3 : Int) (a0_4 : ByteArray) (a0_5 : ByteArray) (a0_6 : Bool) (a0_7 : Int) (r : List Int) (w : World) (h : rivuletref23_numbers.f a0_0 a0_1 a0_2 a0_3 a0_4 a0_5 a0_6 a0_7 = some r) :
  Calls Tryd.prog 45 #[.agg #[.int .i64 a0_0, .int .i64 a0_1, .int .i64 a0_2, .int .i64 a0_3, .string a0_4, .string a0_5, .bool a0_6, .int .i64 a0_7]] w fun e w' => ∃ v0_ : Value, e = .returned (v0_) ∧ Kd.R (Kd.int .i64) 3 w' w.heap.size (fun _ => True) v0_ r ∧ Below w.heap.size w w' := by
 have hu23 := Tryd.underlying23
 have HB := Aside0.mk (Below.refl w.heap.size w)
 have H : (some (([a0_1, a0_2, a0_3, a0_7] : List Int))) = some r := h
 clear h
 obtain ⟨y203, hy203⟩ : ∃ y_ : List Int, y_ = (([a0_1, a0_2, a0_3, a0_7] : List Int)) := ⟨_, rfl⟩
 replace H : (some y203) = some r := by first | (rw [hy203]; with_reducible exact H) | (have H2_ := (Option.bind_some _ _).symm.trans H; rw [hy203]; with_reducible exact H2_) | (have H2_ := (Option.bind_some _ _).symm.trans H; with_reducible exact H2_) | with_reducible exact H | (rw [hy203]; exact H) | exact H
 have Ny203 := Aside0.mk hy203
 clear hy203
 obtain rfl := Option.some.inj H
 go_enter Tryd.func45, Tryd.ntmps45
 go_wp2_with (first | ((with_reducible refine gate_dst (N := 1) rfl ?_); refine box_event ?hg (N := 1) ?hd (cs := #[.int .i64 a0_0, .int .i64 a0_1, .int .i64 a0_2, .int .i64 a0_3, .string a0_4, .string a0_5, .bool a0_6, .int .i64 a0_7]) (t := 23) ?hr ?_; (case hd => rfl); (case hg => rfl); (case hr => first | (go_simp; done) | (go_simp; rfl)); intro gb202 hg w2 hbox hb; have n0_ := Aside0.mk (below_step (by repeat (first | (with_reducible first | exact HB.out | apply below_alloc | apply pw_below_drewN | apply below_drew1) | exact HB.out)) hb); have n1_ := Aside0.mk (hbox); have n2_ := Aside0.mk ((by rw [hg]; exact (below_size (by repeat (first | (with_reducible first | exact HB.out | apply below_alloc | apply pw_below_drewN | apply below_drew1) | exact HB.out))) : w.heap.size ≤ gb202)); have n3_ := Aside0.mk ((by rw [hg]; exact (below_size (by repeat (first | (with_reducible first | exact HB.out | apply below_alloc | apply pw_below_drewN | apply below_drew1) | exact HB.out))) : w.heap.size ≤ gb202)); clear HB; have HB := n0_; have BK202 := n1_; have GW202 := n2_; have GE202 := n3_; clear n0_ n1_ n2_ n3_; clear hb hbox hg; have hcz3_0 : w2.cell? ⟨gb202, 0, none⟩ = some (.int .i64 a0_0) := (blk_cell BK202.out 0).trans rfl; have hcz3_1 : w2.cell? ⟨gb202, 1, none⟩ = some (.int .i64 a0_1) := (blk_cell BK202.out 1).trans rfl; have hcz3_2 : w2.cell? ⟨gb202, 2, none⟩ = some (.int .i64 a0_2) := (blk_cell BK202.out 2).trans rfl; have hcz3_3 : w2.cell? ⟨gb202, 3, none⟩ = some (.int .i64 a0_3) := (blk_cell BK202.out 3).trans rfl; have hcz3_4 : w2.cell? ⟨gb202, 4, none⟩ = some (.string a0_4) := (blk_cell BK202.out 4).trans rfl; have hcz3_5 : w2.cell? ⟨gb202, 5, none⟩ = some (.string a0_5) := (blk_cell BK202.out 5).trans rfl; have hcz3_6 : w2.cell? ⟨gb202, 6, none⟩ = some (.bool a0_6) := (blk_cell BK202.out 6).trans rfl; have hcz3_7 : w2.cell? ⟨gb202, 7, none⟩ = some (.int .i64 a0_7) := (blk_cell BK202.out 7).trans rfl; have hfz3_0 := blk_frozen BK202.out 0; have hfz3_1 := blk_frozen BK202.out 1; have hfz3_2 := blk_frozen BK202.out 2; have hfz3_3 := blk_frozen BK202.out 3; have hfz3_4 := blk_frozen BK202.out 4; have hfz3_5 := blk_frozen BK202.out 5; have hfz3_6 := blk_frozen BK202.out 6; have hfz3_7 := blk_frozen BK202.out 7) | ((with_reducible refine gate_dst (N := 11) rfl ?_); refine Kd.R_lit (Kd.int .i64) _ 3 ?hg (N := 11) ?hd (xs := ([a0_1, a0_2, a0_3, a0_7] : List Int)) (inner := [.int .i64 a0_1, .int .i64 a0_2, .int .i64 a0_3, .int .i64 a0_7]) (ok := fun _ => True) (okp := fun _ => True) ?hr ?hp (fun _ hk => hk) trivial (Below.refl _ _) (Nat.le_refl _) (by simp) ?_; (case hd => rfl); (case hg => rfl); (case hr => first | (go_simp; done) | (go_simp; rfl)); (case hp => exact (Reps.one (show Kd.M (Kd.int .i64) _ _ _ a0_1 [.int .i64 a0_1] from rfl) (Reps.one (show Kd.M (Kd.int .i64) _ _ _ a0_2 [.int .i64 a0_2] from rfl) (Reps.one (show Kd.M (Kd.int .i64) _ _ _ a0_3 [.int .i64 a0_3] from rfl) (Reps.one (show Kd.M (Kd.int .i64) _ _ _ a0_7 [.int .i64 a0_7] from rfl) (Reps.none _ _)))))); intro v204 w4 ho5 hb hg_ hnew_; clear hg_ hnew_; (first | rw [← Ny203.out] at ho5 | (simp only [Int.reduceToNat] at ho5; rw [← Ny203.out] at ho5)); have n0_ := Aside0.mk (Kd.R_lower ho5 (below_size (by repeat (first | (with_reducible first | exact HB.out | apply below_alloc | apply pw_below_drewN | apply below_drew1 | refine below_set ?_ GE202.out) | exact HB.out)))); have n1_ := Aside0.mk (blk_below (g := gb202) (o := .cells #[.int .i64 a0_0, .int .i64 a0_1, .int .i64 a0_2, .int .i64 a0_3, .string a0_4, .string a0_5, .bool a0_6, .int .i64 a0_7] 23 (0, 0)) (by (with_reducible repeat (first | refine blk_drewN ?_ _ | refine blk_drew ?_ | refine blk_alloc ?_ _)); exact BK202.out) hb); have n2_ := Aside0.mk (below_step (by repeat (first | (with_reducible first | exact HB.out | apply below_alloc | apply pw_below_drewN | apply below_drew1 | refine below_set ?_ GE202.out) | exact HB.out)) hb); clear BK202; clear HB; have HO205 := n0_; have BK202 := n1_; have HB := n2_; clear n0_ n1_ n2_; clear hb ho5))
 go_ret
 exact ⟨_, by first | rfl | (simp [errW_none, errW_some] <;> rfl) | (simp [*, errW_none, errW_some] <;> rfl), by (with_reducible repeat (first | apply Kd.R_alloc | apply Kd.R_drewN | apply Kd.R_drew)); exact HO205.out, by repeat (first | (with_reducible first | exact HB.out | apply below_alloc | apply pw_below_drewN | apply below_drew1 | refine below_set ?_ GE202.out) | exact HB.out)⟩
end Go.Proofs.YtjjimkmbbifbjaaDoor.Pv
end
section
namespace Go.Proofs.YtjjimkmbbifbjaaDoor.Pv
open Go.RowKit Go.Proofs.YtjjimkmbbifbjaaDoorW.PrintWords Go.Proofs.YtjjimkmbbifbjaaDoorW.PrintLast Go.Proofs.YtjjimkmbbifbjaaDoorW.PrintMore
attribute [local go_sem] max2_int min2_int max_two min_two max_three min_three max_four min_four
set_option linter.unusedVariables false
set_option linter.unusedSimpArgs false
mutual
def rivuletref23_Put.l0 : Nat → ByteArray → List Int → Int → Int → Int → Int → Int → ByteArray → ByteArray → Bool → Int → Option (ByteArray)
 | 0, _, _, _, _, _, _, _, _, _, _, _ => none
 | k + 1, x3, x4, x5, x207000, x207001, x207002, x207003, x207004, x207005, x207006, x207007 => if x5 < 4 then ((rivuletref23_Has.f x207000 x5).bind fun t214 => (if t214 = true then (if 0 ≤ x5 then (if x5 < (x4.length : Int) then ((rivuletref01_Put.f k (IntKind.u64.wrap (rd x4 x5))).bind fun t216 => (if x3.size + t216.size ≤ 9223372036854775807 then (rivuletref23_Put.l0 k (x3 ++ t216) x4 (wrap64 (x5 + 1)) x207000 x207001 x207002 x207003 x207004 x207005 x207006 x207007) else (none))) else (none)) else (none)) else (rivuletref23_Put.l0 k x3 x4 (wrap64 (x5 + 1)) x207000 x207001 x207002 x207003 x207004 x207005 x207006 x207007))) else ((rivuletref23_Has.f x207000 4).bind fun t217 => (if t217 = true then (rivuletref23_Put.j1 k x3 x207006 x207000 x207001 x207002 x207003 x207004 x207005 x207006 x207007) else (rivuletref23_Put.j1 k x3 false x207000 x207001 x207002 x207003 x207004 x207005 x207006 x207007)))
def rivuletref23_Put.j1 : Nat → ByteArray → Bool → Int → Int → Int → Int → ByteArray → ByteArray → Bool → Int → Option (ByteArray)
 | 0, _, _, _, _, _, _, _, _, _, _ => none
 | k + 1, x3, x38, x207000, x207001, x207002, x207003, x207004, x207005, x207006, x207007 => if x38 = true then (if x3.size + 1 ≤ 9223372036854775807 then (rivuletref23_Put.j2 k (x3 ++ (⟨#[1]⟩ : ByteArray)) x207000 x207001 x207002 x207003 x207004 x207005 x207006 x207007) else (none)) else (rivuletref23_Put.j2 k x3 x207000 x207001 x207002 x207003 x207004 x207005 x207006 x207007)
def rivuletref23_Put.j2 : Nat → ByteArray → Int → Int → Int → Int → ByteArray → ByteArray → Bool → Int → Option (ByteArray)
 | 0, _, _, _, _, _, _, _, _, _ => none
 | k + 1, x3, x207000, x207001, x207002, x207003, x207004, x207005, x207006, x207007 => (rivuletref23_Has.f x207000 4).bind fun t218 => (if t218 = true then (rivuletref23_Put.j3 k x3 (!x207006) x207000 x207001 x207002 x207003 x207004 x207005 x207006 x207007) else (rivuletref23_Put.j3 k x3 false x207000 x207001 x207002 x207003 x207004 x207005 x207006 x207007))
def rivuletref23_Put.j3 : Nat → ByteArray → Bool → Int → Int → Int → Int → ByteArray → ByteArray → Bool → Int → Option (ByteArray)
 | 0, _, _, _, _, _, _, _, _, _, _ => none
 | k + 1, x3, x48, x207000, x207001, x207002, x207003, x207004, x207005, x207006, x207007 => if x48 = true then (if x3.size + 1 ≤ 9223372036854775807 then (rivuletref23_Put.j4 k (x3 ++ (⟨#[0]⟩ : ByteArray)) x207000 x207001 x207002 x207003 x207004 x207005 x207006 x207007) else (none)) else (rivuletref23_Put.j4 k x3 x207000 x207001 x207002 x207003 x207004 x207005 x207006 x207007)
def rivuletref23_Put.j4 : Nat → ByteArray → Int → Int → Int → Int → ByteArray → ByteArray → Bool → Int → Option (ByteArray)
 | 0, _, _, _, _, _, _, _, _, _ => none
 | k + 1, x3, x207000, x207001, x207002, x207003, x207004, x207005, x207006, x207007 => (rivuletref23_Has.f x207000 5).bind fun t219 => (if t219 = true then ((rivuletref01_Text.f k x207004).bind fun t220 => (if x3.size + t220.size ≤ 9223372036854775807 then (rivuletref23_Put.j5 k (x3 ++ t220) x207000 x207001 x207002 x207003 x207004 x207005 x207006 x207007) else (none))) else (rivuletref23_Put.j5 k x3 x207000 x207001 x207002 x207003 x207004 x207005 x207006 x207007))
def rivuletref23_Put.j5 : Nat → ByteArray → Int → Int → Int → Int → ByteArray → ByteArray → Bool → Int → Option (ByteArray)
 | 0, _, _, _, _, _, _, _, _, _ => none
 | k + 1, x3, x207000, x207001, x207002, x207003, x207004, x207005, x207006, x207007 => (rivuletref23_Has.f x207000 6).bind fun t221 => (if t221 = true then ((rivuletref01_Text.f k x207005).bind fun t222 => (if x3.size + t222.size ≤ 9223372036854775807 then (some (x3 ++ t222)) else (none))) else (some x3))
end
def rivuletref23_Put.f (k : Nat) (a0_0 : Int) (a0_1 : Int) (a0_2 : Int) (a0_3 : Int) (a0_4 : ByteArray) (a0_5 : ByteArray) (a0_6 : Bool) (a0_7 : Int) : Option (ByteArray) := (rivuletref23_Right.f k a0_0 a0_1 a0_2 a0_3 a0_4 a0_5 a0_6 a0_7).bind fun t207 => (if t207 = true then ((rivuletref23_numbers.f a0_0 a0_1 a0_2 a0_3 a0_4 a0_5 a0_6 a0_7).bind fun t211 => (rivuletref23_Put.l0 k (strOfNums (([(a0_0) % 256] : List Int))) t211 0 a0_0 a0_1 a0_2 a0_3 a0_4 a0_5 a0_6 a0_7)) else (some ⟨#[]⟩))
set_option maxHeartbeats 8000000 in
set_option maxRecDepth 100000 in
theorem rivuletref23_Put.calls (k : Nat) (a0_0 : Int) (a0_1 : Int) (a0_2 : Int) (a0_3 : Int) (a0_4 : ByteArray) (a0_5 : ByteArray) (a0_6 : Bool) (a0_7 : Int) (r : ByteArray) (w : World) (h : rivuletref23_Put.f k a0_0 a0_1 a0_2 a0_3 a0_4 a0_5 a0_6 a0_7 = some r) :
  Calls Tryd.prog 16 #[.agg #[.int .i64 a0_0, .int .i64 a0_1, .int .i64 a0_2, .int .i64 a0_3, .string a0_4, .string a0_5, .bool a0_6, .int .i64 a0_7]] w fun e w' => e = .returned (.string r) ∧ Below w.heap.size w w' := by
 have hu23 := Tryd.underlying23
 have HB := Aside0.mk (Below.refl w.heap.size w)
 have H : ((rivuletref23_Right.f k a0_0 a0_1 a0_2 a0_3 a0_4 a0_5 a0_6 a0_7).bind fun t207 => (if t207 = true then ((rivuletref23_numbers.f a0_0 a0_1 a0_2 a0_3 a0_4 a0_5 a0_6 a0_7).bind fun t211 => (rivuletref23_Put.l0 k (strOfNums (([(a0_0) % 256] : List Int))) t211 0 a0_0 a0_1 a0_2 a0_3 a0_4 a0_5 a0_6 a0_7)) else (some ⟨#[]⟩))) = some r := h
 clear h
 replace H := Option.bind_eq_some_iff.mp H
 obtain ⟨t207, A20, H⟩ := H
 replace H : (if t207 = true then ((rivuletref23_numbers.f a0_0 a0_1 a0_2 a0_3 a0_4 a0_5 a0_6 a0_7).bind fun t211 => (rivuletref23_Put.l0 k (strOfNums (([(a0_0) % 256] : List Int))) t211 0 a0_0 a0_1 a0_2 a0_3 a0_4 a0_5 a0_6 a0_7)) else (some ⟨#[]⟩)) = some r := H
 have A2 := Aside0.mk A20
 clear A20
 by_cases c3 : t207 = true
 ·subst c3
  have H1 : ((rivuletref23_numbers.f a0_0 a0_1 a0_2 a0_3 a0_4 a0_5 a0_6 a0_7).bind fun t211 => (rivuletref23_Put.l0 k (strOfNums (([(a0_0) % 256] : List Int))) t211 0 a0_0 a0_1 a0_2 a0_3 a0_4 a0_5 a0_6 a0_7)) = some r := by rw [if_pos rfl] at H; exact H
  clear H
  have H := H1
  clear H1
  obtain ⟨y208, hy208⟩ : ∃ y_ : List Int, y_ = (([(a0_0) % 256] : List Int)) := ⟨_, rfl⟩
  replace H : ((rivuletref23_numbers.f a0_0 a0_1 a0_2 a0_3 a0_4 a0_5 a0_6 a0_7).bind fun t211 => (rivuletref23_Put.l0 k (strOfNums y208) t211 0 a0_0 a0_1 a0_2 a0_3 a0_4 a0_5 a0_6 a0_7)) = some r := by first | (rw [hy208]; with_reducible exact H) | (have H2_ := (Option.bind_some _ _).symm.trans H; rw [hy208]; with_reducible exact H2_) | (have H2_ := (Option.bind_some _ _).symm.trans H; with_reducible exact H2_) | with_reducible exact H | (rw [hy208]; exact H) | exact H
  have Ny208 := Aside0.mk hy208
  clear hy208
  replace H := Option.bind_eq_some_iff.mp H
  obtain ⟨t211, A40, H⟩ := H
  replace H : (rivuletref23_Put.l0 k (strOfNums y208) t211 0 a0_0 a0_1 a0_2 a0_3 a0_4 a0_5 a0_6 a0_7) = some r := H
  have A4 := Aside0.mk A40
  clear A40
  have H' := Aside0.mk H
  clear H
  go_enter Tryd.func16, Tryd.ntmps16
  go_wp2_with (first | ((with_reducible refine gate_dst (N := 1) rfl ?_); refine box_event ?hg (N := 1) ?hd (cs := #[.int .i64 a0_0, .int .i64 a0_1, .int .i64 a0_2, .int .i64 a0_3, .string a0_4, .string a0_5, .bool a0_6, .int .i64 a0_7]) (t := 23) ?hr ?_; (case hd => rfl); (case hg => rfl); (case hr => first | (go_simp; done) | (go_simp; rfl)); intro gb206 hg w5 hbox hb; have n0_ := Aside0.mk (below_step (by repeat (first | (with_reducible first | exact HB.out | apply below_alloc | apply pw_below_drewN | apply below_drew1) | exact HB.out)) hb); have n1_ := Aside0.mk (hbox); have n2_ := Aside0.mk ((by rw [hg]; exact (below_size (by repeat (first | (with_reducible first | exact HB.out | apply below_alloc | apply pw_below_drewN | apply below_drew1) | exact HB.out))) : w.heap.size ≤ gb206)); have n3_ := Aside0.mk ((by rw [hg]; exact (below_size (by repeat (first | (with_reducible first | exact HB.out | apply below_alloc | apply pw_below_drewN | apply below_drew1) | exact HB.out))) : w.heap.size ≤ gb206)); clear HB; have HB := n0_; have BK206 := n1_; have GW206 := n2_; have GE206 := n3_; clear n0_ n1_ n2_ n3_; clear hb hbox hg; have hcz6_0 : w5.cell? ⟨gb206, 0, none⟩ = some (.int .i64 a0_0) := (blk_cell BK206.out 0).trans rfl; have hcz6_1 : w5.cell? ⟨gb206, 1, none⟩ = some (.int .i64 a0_1) := (blk_cell BK206.out 1).trans rfl; have hcz6_2 : w5.cell? ⟨gb206, 2, none⟩ = some (.int .i64 a0_2) := (blk_cell BK206.out 2).trans rfl; have hcz6_3 : w5.cell? ⟨gb206, 3, none⟩ = some (.int .i64 a0_3) := (blk_cell BK206.out 3).trans rfl; have hcz6_4 : w5.cell? ⟨gb206, 4, none⟩ = some (.string a0_4) := (blk_cell BK206.out 4).trans rfl; have hcz6_5 : w5.cell? ⟨gb206, 5, none⟩ = some (.string a0_5) := (blk_cell BK206.out 5).trans rfl; have hcz6_6 : w5.cell? ⟨gb206, 6, none⟩ = some (.bool a0_6) := (blk_cell BK206.out 6).trans rfl; have hcz6_7 : w5.cell? ⟨gb206, 7, none⟩ = some (.int .i64 a0_7) := (blk_cell BK206.out 7).trans rfl; have hfz6_0 := blk_frozen BK206.out 0; have hfz6_1 := blk_frozen BK206.out 1; have hfz6_2 := blk_frozen BK206.out 2; have hfz6_3 := blk_frozen BK206.out 3; have hfz6_4 := blk_frozen BK206.out 4; have hfz6_5 := blk_frozen BK206.out 5; have hfz6_6 := blk_frozen BK206.out 6; have hfz6_7 := blk_frozen BK206.out 7) | ((with_reducible refine gate_callee (f := 12) rfl ?_); refine goesL_ (some 7) rfl rfl Tryd.func12 (by kernel_rfl) rfl #[.agg #[.int .i64 a0_0, .int .i64 a0_1, .int .i64 a0_2, .int .i64 a0_3, .string a0_4, .string a0_5, .bool a0_6, .int .i64 a0_7]] rfl (by (try simp only [List.map_toArray, List.map_cons, List.map_nil]); first | done | rfl | (simp only [List.length_drop, List.length_take]; rfl)) ?_; (with_reducible refine (rivuletref23_Right.calls k a0_0 a0_1 a0_2 a0_3 a0_4 a0_5 a0_6 a0_7 true _ A2.out).mono ?_); rintro e w7 ⟨rfl, hb⟩; refine ⟨_, rfl, ?_⟩; have n0_ := Aside0.mk (blk_below (g := gb206) (o := .cells #[.int .i64 a0_0, .int .i64 a0_1, .int .i64 a0_2, .int .i64 a0_3, .string a0_4, .string a0_5, .bool a0_6, .int .i64 a0_7] 23 (0, 0)) (by (with_reducible repeat (first | refine blk_drewN ?_ _ | refine blk_drew ?_ | refine blk_alloc ?_ _)); exact BK206.out) hb); have n1_ := Aside0.mk (below_step (by repeat (first | (with_reducible first | exact HB.out | apply below_alloc | apply pw_below_drewN | apply below_drew1 | refine below_set ?_ GE206.out) | exact HB.out)) hb); clear BK206; clear HB; have BK206 := n0_; have HB := n1_; clear n0_ n1_; (try clear hb); (try clear hb2); (try clear hk); (try clear hi); have hcz8_0 : w7.cell? ⟨gb206, 0, none⟩ = some (.int .i64 a0_0) := (blk_cell BK206.out 0).trans rfl; have hcz8_1 : w7.cell? ⟨gb206, 1, none⟩ = some (.int .i64 a0_1) := (blk_cell BK206.out 1).trans rfl; have hcz8_2 : w7.cell? ⟨gb206, 2, none⟩ = some (.int .i64 a0_2) := (blk_cell BK206.out 2).trans rfl; have hcz8_3 : w7.cell? ⟨gb206, 3, none⟩ = some (.int .i64 a0_3) := (blk_cell BK206.out 3).trans rfl; have hcz8_4 : w7.cell? ⟨gb206, 4, none⟩ = some (.string a0_4) := (blk_cell BK206.out 4).trans rfl; have hcz8_5 : w7.cell? ⟨gb206, 5, none⟩ = some (.string a0_5) := (blk_cell BK206.out 5).trans rfl; have hcz8_6 : w7.cell? ⟨gb206, 6, none⟩ = some (.bool a0_6) := (blk_cell BK206.out 6).trans rfl; have hcz8_7 : w7.cell? ⟨gb206, 7, none⟩ = some (.int .i64 a0_7) := (blk_cell BK206.out 7).trans rfl; have hfz8_0 := blk_frozen BK206.out 0; have hfz8_1 := blk_frozen BK206.out 1; have hfz8_2 := blk_frozen BK206.out 2; have hfz8_3 := blk_frozen BK206.out 3; have hfz8_4 := blk_frozen BK206.out 4; have hfz8_5 := blk_frozen BK206.out 5; have hfz8_6 := blk_frozen BK206.out 6; have hfz8_7 := blk_frozen BK206.out 7) | ((with_reducible refine gate_dst (N := 12) rfl ?_); refine Kd.R_lit (Kd.int .u8) _ 5 ?hg (N := 12) ?hd (xs := ([(a0_0) % 256] : List Int)) (inner := [.int .u8 ((a0_0) % 256)]) (ok := fun _ => True) (okp := fun _ => True) ?hr ?hp (fun _ hk => hk) trivial (Below.refl _ _) (Nat.le_refl _) (by simp) ?_; (case hd => rfl); (case hg => rfl); (case hr => first | (go_simp; done) | (go_simp; rfl)); (case hp => exact (Reps.one (show Kd.M (Kd.int .u8) _ _ _ ((a0_0) % 256) [.int .u8 ((a0_0) % 256)] from rfl) (Reps.none _ _))); intro v209 w9 ho10 hb hg_ hnew_; clear hg_ hnew_; (first | rw [← Ny208.out] at ho10 | (simp only [Int.reduceToNat] at ho10; rw [← Ny208.out] at ho10)); have n0_ := Aside0.mk (Kd.R_lower ho10 (below_size (by repeat (first | (with_reducible first | exact HB.out | apply below_alloc | apply pw_below_drewN | apply below_drew1 | refine below_set ?_ GE206.out) | exact HB.out)))); have n1_ := Aside0.mk (blk_below (g := gb206) (o := .cells #[.int .i64 a0_0, .int .i64 a0_1, .int .i64 a0_2, .int .i64 a0_3, .string a0_4, .string a0_5, .bool a0_6, .int .i64 a0_7] 23 (0, 0)) (by (with_reducible repeat (first | refine blk_drewN ?_ _ | refine blk_drew ?_ | refine blk_alloc ?_ _)); exact BK206.out) hb); have n2_ := Aside0.mk (below_step (by repeat (first | (with_reducible first | exact HB.out | apply below_alloc | apply pw_below_drewN | apply below_drew1 | refine below_set ?_ GE206.out) | exact HB.out)) hb); clear BK206; clear HB; have HO210 := n0_; have BK206 := n1_; have HB := n2_; clear n0_ n1_ n2_; clear hb ho10; have hcv11 := own_string (P := Tryd.prog) Tryd.underlying47 Tryd.underlying5 Tryd.underlying9 (Kd.own_of_R HO210.out); have hcz12_0 : w9.cell? ⟨gb206, 0, none⟩ = some (.int .i64 a0_0) := (blk_cell BK206.out 0).trans rfl; have hcz12_1 : w9.cell? ⟨gb206, 1, none⟩ = some (.int .i64 a0_1) := (blk_cell BK206.out 1).trans rfl; have hcz12_2 : w9.cell? ⟨gb206, 2, none⟩ = some (.int .i64 a0_2) := (blk_cell BK206.out 2).trans rfl; have hcz12_3 : w9.cell? ⟨gb206, 3, none⟩ = some (.int .i64 a0_3) := (blk_cell BK206.out 3).trans rfl; have hcz12_4 : w9.cell? ⟨gb206, 4, none⟩ = some (.string a0_4) := (blk_cell BK206.out 4).trans rfl; have hcz12_5 : w9.cell? ⟨gb206, 5, none⟩ = some (.string a0_5) := (blk_cell BK206.out 5).trans rfl; have hcz12_6 : w9.cell? ⟨gb206, 6, none⟩ = some (.bool a0_6) := (blk_cell BK206.out 6).trans rfl; have hcz12_7 : w9.cell? ⟨gb206, 7, none⟩ = some (.int .i64 a0_7) := (blk_cell BK206.out 7).trans rfl; have hfz12_0 := blk_frozen BK206.out 0; have hfz12_1 := blk_frozen BK206.out 1; have hfz12_2 := blk_frozen BK206.out 2; have hfz12_3 := blk_frozen BK206.out 3; have hfz12_4 := blk_frozen BK206.out 4; have hfz12_5 := blk_frozen BK206.out 5; have hfz12_6 := blk_frozen BK206.out 6; have hfz12_7 := blk_frozen BK206.out 7) | ((with_reducible refine gate_callee (f := 45) rfl ?_); refine goesL_ (some 15) rfl rfl Tryd.func45 (by kernel_rfl) rfl #[.agg #[.int .i64 a0_0, .int .i64 a0_1, .int .i64 a0_2, .int .i64 a0_3, .string a0_4, .string a0_5, .bool a0_6, .int .i64 a0_7]] rfl (by (try simp only [List.map_toArray, List.map_cons, List.map_nil]); first | done | rfl | (simp only [List.length_drop, List.length_take]; rfl)) ?_; (with_reducible refine (rivuletref23_numbers.calls a0_0 a0_1 a0_2 a0_3 a0_4 a0_5 a0_6 a0_7 t211 _ A4.out).mono ?_); rintro e w13 ⟨v212, rfl, ho0, hb⟩; refine ⟨_, rfl, ?_⟩; have n0_ := Aside0.mk (Kd.R_below (by (with_reducible repeat (first | apply Kd.R_alloc | apply Kd.R_drewN | apply Kd.R_drew)); exact HO210.out) hb); have n1_ := Aside0.mk (Kd.R_lower ho0 (below_size (by repeat (first | (with_reducible first | exact HB.out | apply below_alloc | apply pw_below_drewN | apply below_drew1 | refine below_set ?_ GE206.out) | exact HB.out)))); have n2_ := Aside0.mk (blk_below (g := gb206) (o := .cells #[.int .i64 a0_0, .int .i64 a0_1, .int .i64 a0_2, .int .i64 a0_3, .string a0_4, .string a0_5, .bool a0_6, .int .i64 a0_7] 23 (0, 0)) (by (with_reducible repeat (first | refine blk_drewN ?_ _ | refine blk_drew ?_ | refine blk_alloc ?_ _)); exact BK206.out) hb); have n3_ := Aside0.mk (below_step (by repeat (first | (with_reducible first | exact HB.out | apply below_alloc | apply pw_below_drewN | apply below_drew1 | refine below_set ?_ GE206.out) | exact HB.out)) hb); clear HO210; clear BK206; clear HB; have HO210 := n0_; have HO213 := n1_; have BK206 := n2_; have HB := n3_; clear n0_ n1_ n2_ n3_; (try clear hb); (try clear hb2); (try clear hk); (try clear hi); (try clear ho0)))
  go_loopg [3, 5] k (fun kq v3 v5 w' => ∃ (x3_1 : ByteArray) (x5_1 : Int), v3 = .string x3_1 ∧ v5 = .int .i64 x5_1 ∧ Aside0 (rivuletref23_Put.l0 kq x3_1 t211 x5_1 a0_0 a0_1 a0_2 a0_3 a0_4 a0_5 a0_6 a0_7 = some r) ∧ Aside0 (kq ≤ k) ∧ Aside0 (Kd.R (Kd.int .i64) 3 w' w.heap.size (fun _ => True) v212 t211) ∧ Aside0 (w'.heap[gb206]? = some (.cells #[.int .i64 a0_0, .int .i64 a0_1, .int .i64 a0_2, .int .i64 a0_3, .string a0_4, .string a0_5, .bool a0_6, .int .i64 a0_7] 23 (0, 0))) ∧ Aside0 (Below w.heap.size w w'))
  case atStart => exact ⟨(strOfNums y208), (0), (by first | rfl | (simp; done) | (simp [*]; done)), (by first | rfl | (simp; done) | (simp [*]; done)), H', ⟨Nat.le_refl _⟩, ⟨by (with_reducible repeat (first | apply Kd.R_alloc | apply Kd.R_drewN | apply Kd.R_drew)); exact HO213.out⟩, ⟨by (with_reducible repeat (first | refine blk_drewN ?_ _ | refine blk_drew ?_ | refine blk_alloc ?_ _)); exact BK206.out⟩, ⟨by repeat (first | (with_reducible first | exact HB.out | apply below_alloc | apply pw_below_drewN | apply below_drew1 | refine below_set ?_ GE206.out) | exact HB.out)⟩⟩
  case round =>
   clear H'
   try clear c1
   try clear hcv1
   try clear p2
   try clear c3
   try clear c4
   try clear hcv11
   try clear c12
   try clear hcz12_0
   try clear hcz12_1
   try clear hcz12_2
   try clear hcz12_3
   try clear hcz12_4
   try clear hcz12_5
   try clear hcz12_6
   try clear hcz12_7
   try clear hcz6_0
   try clear hcz6_1
   try clear hcz6_2
   try clear hcz6_3
   try clear hcz6_4
   try clear hcz6_5
   try clear hcz6_6
   try clear hcz6_7
   try clear hcz8_0
   try clear hcz8_1
   try clear hcz8_2
   try clear hcz8_3
   try clear hcz8_4
   try clear hcz8_5
   try clear hcz8_6
   try clear hcz8_7
   try clear hfz12_0
   try clear hfz12_1
   try clear hfz12_2
   try clear hfz12_3
   try clear hfz12_4
   try clear hfz12_5
   try clear hfz12_6
   try clear hfz12_7
   try clear hfz6_0
   try clear hfz6_1
   try clear hfz6_2
   try clear hfz6_3
   try clear hfz6_4
   try clear hfz6_5
   try clear hfz6_6
   try clear hfz6_7
   try clear hfz8_0
   try clear hfz8_1
   try clear hfz8_2
   try clear hfz8_3
   try clear hfz8_4
   try clear hfz8_5
   try clear hfz8_6
   try clear hfz8_7
   obtain ⟨x3_1, x5_1, rfl, rfl, HA, HK1, HO_4, BK206, HB⟩ := hrel
   cases gk with
   | zero => exact absurd HA.out (by simp [rivuletref23_Put.l0])
   | succ k1 =>
    have H := HA.out
    clear HA
    simp only [rivuletref23_Put.l0] at H
    by_cases c14 : x5_1 < 4
    ·rw [if_pos c14] at H
     have c14b0 : decide (x5_1 < 4) = true := decide_eq_true c14
     clear c14
     replace H := Option.bind_eq_some_iff.mp H
     obtain ⟨t214, A150, H⟩ := H
     replace H : (if t214 = true then (if 0 ≤ x5_1 then (if x5_1 < (t211.length : Int) then ((rivuletref01_Put.f k1 (IntKind.u64.wrap (rd t211 x5_1))).bind fun t216 => (if x3_1.size + t216.size ≤ 9223372036854775807 then (rivuletref23_Put.l0 k1 (x3_1 ++ t216) t211 (wrap64 (x5_1 + 1)) a0_0 a0_1 a0_2 a0_3 a0_4 a0_5 a0_6 a0_7) else (none))) else (none)) else (none)) else (rivuletref23_Put.l0 k1 x3_1 t211 (wrap64 (x5_1 + 1)) a0_0 a0_1 a0_2 a0_3 a0_4 a0_5 a0_6 a0_7)) = some r := H
     have A15 := Aside0.mk A150
     clear A150
     by_cases c16 : t214 = true
     ·subst c16
      have H1 : (if 0 ≤ x5_1 then (if x5_1 < (t211.length : Int) then ((rivuletref01_Put.f k1 (IntKind.u64.wrap (rd t211 x5_1))).bind fun t216 => (if x3_1.size + t216.size ≤ 9223372036854775807 then (rivuletref23_Put.l0 k1 (x3_1 ++ t216) t211 (wrap64 (x5_1 + 1)) a0_0 a0_1 a0_2 a0_3 a0_4 a0_5 a0_6 a0_7) else (none))) else (none)) else (none)) = some r := by rw [if_pos rfl] at H; exact H
      clear H
      have H := H1
      clear H1
      by_cases c17 : 0 ≤ x5_1
      ·rw [if_pos c17] at H
       have c17b0 : decide (0 ≤ x5_1) = true := decide_eq_true c17
       clear c17
       by_cases c18 : x5_1 < (t211.length : Int)
       ·rw [if_pos c18] at H
        have c18b0 : decide (x5_1 < (t211.length : Int)) = true := decide_eq_true c18
        clear c18
        replace H := Option.bind_eq_some_iff.mp H
        obtain ⟨t216, A190, H⟩ := H
        replace H : (if x3_1.size + t216.size ≤ 9223372036854775807 then (rivuletref23_Put.l0 k1 (x3_1 ++ t216) t211 (wrap64 (x5_1 + 1)) a0_0 a0_1 a0_2 a0_3 a0_4 a0_5 a0_6 a0_7) else (none)) = some r := H
        have A19 := Aside0.mk A190
        clear A190
        by_cases c20 : x3_1.size + t216.size ≤ 9223372036854775807
        ·rw [if_pos c20] at H
         have c20b0 := eq_true c20
         have c20b1 : decide (x3_1.size + t216.size ≤ 9223372036854775807) = true := decide_eq_true c20
         try have c20b2 : (9223372036854775807 < x3_1.size + t216.size) = False := eq_false (Nat.not_lt.2 c20)
         have H' := Aside0.mk H
         clear H
         have hcz21_0 : wr.cell? ⟨gb206, 0, none⟩ = some (.int .i64 a0_0) := (blk_cell BK206.out 0).trans rfl
         have hcz21_1 : wr.cell? ⟨gb206, 1, none⟩ = some (.int .i64 a0_1) := (blk_cell BK206.out 1).trans rfl
         have hcz21_2 : wr.cell? ⟨gb206, 2, none⟩ = some (.int .i64 a0_2) := (blk_cell BK206.out 2).trans rfl
         have hcz21_3 : wr.cell? ⟨gb206, 3, none⟩ = some (.int .i64 a0_3) := (blk_cell BK206.out 3).trans rfl
         have hcz21_4 : wr.cell? ⟨gb206, 4, none⟩ = some (.string a0_4) := (blk_cell BK206.out 4).trans rfl
         have hcz21_5 : wr.cell? ⟨gb206, 5, none⟩ = some (.string a0_5) := (blk_cell BK206.out 5).trans rfl
         have hcz21_6 : wr.cell? ⟨gb206, 6, none⟩ = some (.bool a0_6) := (blk_cell BK206.out 6).trans rfl
         have hcz21_7 : wr.cell? ⟨gb206, 7, none⟩ = some (.int .i64 a0_7) := (blk_cell BK206.out 7).trans rfl
         have hfz21_0 := blk_frozen BK206.out 0
         have hfz21_1 := blk_frozen BK206.out 1
         have hfz21_2 := blk_frozen BK206.out 2
         have hfz21_3 := blk_frozen BK206.out 3
         have hfz21_4 := blk_frozen BK206.out 4
         have hfz21_5 := blk_frozen BK206.out 5
         have hfz21_6 := blk_frozen BK206.out 6
         have hfz21_7 := blk_frozen BK206.out 7
         go_wp2_with (first | ((with_reducible refine gate_callee (f := 41) rfl ?_); refine goesL_ (some 23) rfl rfl Tryd.func41 (by kernel_rfl) rfl #[.int .i64 a0_0, .int .i64 x5_1] rfl (by (try simp only [List.map_toArray, List.map_cons, List.map_nil]); first | done | rfl | (simp only [List.length_drop, List.length_take]; rfl)) ?_; (with_reducible refine (rivuletref23_Has.calls a0_0 x5_1 true _ A15.out).mono ?_); rintro e w22 ⟨rfl, hb⟩; refine ⟨_, rfl, ?_⟩; have n0_ := Aside0.mk (Kd.R_below (by (with_reducible repeat (first | apply Kd.R_alloc | apply Kd.R_drewN | apply Kd.R_drew)); exact HO_4.out) hb); have n1_ := Aside0.mk (blk_below (g := gb206) (o := .cells #[.int .i64 a0_0, .int .i64 a0_1, .int .i64 a0_2, .int .i64 a0_3, .string a0_4, .string a0_5, .bool a0_6, .int .i64 a0_7] 23 (0, 0)) (by (with_reducible repeat (first | refine blk_drewN ?_ _ | refine blk_drew ?_ | refine blk_alloc ?_ _)); exact BK206.out) hb); have n2_ := Aside0.mk (below_step (by repeat (first | (with_reducible first | exact HB.out | apply below_alloc | apply pw_below_drewN | apply below_drew1 | refine below_set ?_ GE206.out) | exact HB.out)) hb); clear HO_4; clear BK206; clear HB; have HO_4 := n0_; have BK206 := n1_; have HB := n2_; clear n0_ n1_ n2_; (try clear hb); (try clear hb2); (try clear hk); (try clear hi); obtain ⟨Ao23, co23, eo23⟩ := Kd.R_slice HO_4.out; subst eo23; have p215 : 0 ≤ (x5_1 : Int) := of_decide_eq_true (by first | (with_reducible assumption) | assumption); have q215 : x5_1 < (t211.length : Int) := of_decide_eq_true (by first | (with_reducible assumption) | assumption); obtain ⟨ad215, e215, hx215_0⟩ := Kd.at_int (Kd.R_reads' HO_4.out).2.2 x5_1 p215 q215; cases e215; replace p215 := eq_true p215; replace q215 := eq_true q215) | ((with_reducible refine gate_callee (f := 46) rfl ?_); refine goesL_ (some 30) rfl rfl Tryd.func46 (by kernel_rfl) rfl #[.int .u64 (IntKind.u64.wrap (rd t211 x5_1))] rfl (by (try simp only [List.map_toArray, List.map_cons, List.map_nil]); first | done | rfl | (simp only [List.length_drop, List.length_take]; rfl)) ?_; (with_reducible refine (rivuletref01_Put.calls k1 (IntKind.u64.wrap (rd t211 x5_1)) t216 _ A19.out).mono ?_); rintro e w24 ⟨rfl, hb⟩; refine ⟨_, rfl, ?_⟩; have n0_ := Aside0.mk (Kd.R_below (by (with_reducible repeat (first | apply Kd.R_alloc | apply Kd.R_drewN | apply Kd.R_drew)); exact HO_4.out) hb); have n1_ := Aside0.mk (blk_below (g := gb206) (o := .cells #[.int .i64 a0_0, .int .i64 a0_1, .int .i64 a0_2, .int .i64 a0_3, .string a0_4, .string a0_5, .bool a0_6, .int .i64 a0_7] 23 (0, 0)) (by (with_reducible repeat (first | refine blk_drewN ?_ _ | refine blk_drew ?_ | refine blk_alloc ?_ _)); exact BK206.out) hb); have n2_ := Aside0.mk (below_step (by repeat (first | (with_reducible first | exact HB.out | apply below_alloc | apply pw_below_drewN | apply below_drew1 | refine below_set ?_ GE206.out) | exact HB.out)) hb); clear HO_4; clear BK206; clear HB; have HO_4 := n0_; have BK206 := n1_; have HB := n2_; clear n0_ n1_ n2_; (try clear hb); (try clear hb2); (try clear hk); (try clear hi)))
         go_roundg k1
         case measure => have := HK1.out; omega
         case rel => exact ⟨(x3_1 ++ t216), (wrap64 (x5_1 + 1)), (by first | rfl | (simp; done) | (simp [*]; done)), (by first | rfl | (simp; done) | (simp [*]; done)), H', ⟨by have := HK1.out; omega⟩, ⟨by (with_reducible repeat (first | apply Kd.R_alloc | apply Kd.R_drewN | apply Kd.R_drew)); exact HO_4.out⟩, ⟨by (with_reducible repeat (first | refine blk_drewN ?_ _ | refine blk_drew ?_ | refine blk_alloc ?_ _)); exact BK206.out⟩, ⟨by repeat (first | (with_reducible first | exact HB.out | apply below_alloc | apply pw_below_drewN | apply below_drew1 | refine below_set ?_ GE206.out) | exact HB.out)⟩⟩
        ·rw [if_neg c20] at H
         exact absurd H (by simp)
       ·rw [if_neg c18] at H
        exact absurd H (by simp)
      ·rw [if_neg c17] at H
       exact absurd H (by simp)
     ·replace c16 := Bool.eq_false_iff.mpr c16
      subst c16
      have H1 : (rivuletref23_Put.l0 k1 x3_1 t211 (wrap64 (x5_1 + 1)) a0_0 a0_1 a0_2 a0_3 a0_4 a0_5 a0_6 a0_7) = some r := by rw [if_neg (show ¬ (false = true) by decide)] at H; exact H
      clear H
      have H := H1
      clear H1
      have H' := Aside0.mk H
      clear H
      have hcz25_0 : wr.cell? ⟨gb206, 0, none⟩ = some (.int .i64 a0_0) := (blk_cell BK206.out 0).trans rfl
      have hcz25_1 : wr.cell? ⟨gb206, 1, none⟩ = some (.int .i64 a0_1) := (blk_cell BK206.out 1).trans rfl
      have hcz25_2 : wr.cell? ⟨gb206, 2, none⟩ = some (.int .i64 a0_2) := (blk_cell BK206.out 2).trans rfl
      have hcz25_3 : wr.cell? ⟨gb206, 3, none⟩ = some (.int .i64 a0_3) := (blk_cell BK206.out 3).trans rfl
      have hcz25_4 : wr.cell? ⟨gb206, 4, none⟩ = some (.string a0_4) := (blk_cell BK206.out 4).trans rfl
      have hcz25_5 : wr.cell? ⟨gb206, 5, none⟩ = some (.string a0_5) := (blk_cell BK206.out 5).trans rfl
      have hcz25_6 : wr.cell? ⟨gb206, 6, none⟩ = some (.bool a0_6) := (blk_cell BK206.out 6).trans rfl
      have hcz25_7 : wr.cell? ⟨gb206, 7, none⟩ = some (.int .i64 a0_7) := (blk_cell BK206.out 7).trans rfl
      have hfz25_0 := blk_frozen BK206.out 0
      have hfz25_1 := blk_frozen BK206.out 1
      have hfz25_2 := blk_frozen BK206.out 2
      have hfz25_3 := blk_frozen BK206.out 3
      have hfz25_4 := blk_frozen BK206.out 4
      have hfz25_5 := blk_frozen BK206.out 5
      have hfz25_6 := blk_frozen BK206.out 6
      have hfz25_7 := blk_frozen BK206.out 7
      go_wp2_with (first | ((with_reducible refine gate_callee (f := 41) rfl ?_); refine goesL_ (some 23) rfl rfl Tryd.func41 (by kernel_rfl) rfl #[.int .i64 a0_0, .int .i64 x5_1] rfl (by (try simp only [List.map_toArray, List.map_cons, List.map_nil]); first | done | rfl | (simp only [List.length_drop, List.length_take]; rfl)) ?_; (with_reducible refine (rivuletref23_Has.calls a0_0 x5_1 false _ A15.out).mono ?_); rintro e w26 ⟨rfl, hb⟩; refine ⟨_, rfl, ?_⟩; have n0_ := Aside0.mk (Kd.R_below (by (with_reducible repeat (first | apply Kd.R_alloc | apply Kd.R_drewN | apply Kd.R_drew)); exact HO_4.out) hb); have n1_ := Aside0.mk (blk_below (g := gb206) (o := .cells #[.int .i64 a0_0, .int .i64 a0_1, .int .i64 a0_2, .int .i64 a0_3, .string a0_4, .string a0_5, .bool a0_6, .int .i64 a0_7] 23 (0, 0)) (by (with_reducible repeat (first | refine blk_drewN ?_ _ | refine blk_drew ?_ | refine blk_alloc ?_ _)); exact BK206.out) hb); have n2_ := Aside0.mk (below_step (by repeat (first | (with_reducible first | exact HB.out | apply below_alloc | apply pw_below_drewN | apply below_drew1 | refine below_set ?_ GE206.out) | exact HB.out)) hb); clear HO_4; clear BK206; clear HB; have HO_4 := n0_; have BK206 := n1_; have HB := n2_; clear n0_ n1_ n2_; (try clear hb); (try clear hb2); (try clear hk); (try clear hi)))
      go_roundg k1
      case measure => have := HK1.out; omega
      case rel => exact ⟨(x3_1), (wrap64 (x5_1 + 1)), (by first | rfl | (simp; done) | (simp [*]; done)), (by first | rfl | (simp; done) | (simp [*]; done)), H', ⟨by have := HK1.out; omega⟩, ⟨by (with_reducible repeat (first | apply Kd.R_alloc | apply Kd.R_drewN | apply Kd.R_drew)); exact HO_4.out⟩, ⟨by (with_reducible repeat (first | refine blk_drewN ?_ _ | refine blk_drew ?_ | refine blk_alloc ?_ _)); exact BK206.out⟩, ⟨by repeat (first | (with_reducible first | exact HB.out | apply below_alloc | apply pw_below_drewN | apply below_drew1 | refine below_set ?_ GE206.out) | exact HB.out)⟩⟩
    ·rw [if_neg c14] at H
     have c14b0 : decide (x5_1 < 4) = false := decide_eq_false c14
     clear c14
     have HC27 := Aside0.mk H
     clear H
     go_upto_region 10 with (fail)
     go_cut [38] (fun v38 wc => ∃ (kq : Nat) (x38_26 : Bool), v38 = .bool x38_26 ∧ Aside0 (rivuletref23_Put.j1 kq x3_1 x38_26 a0_0 a0_1 a0_2 a0_3 a0_4 a0_5 a0_6 a0_7 = some r) ∧ Aside0 (kq ≤ k1) ∧ Aside0 (wc.heap[gb206]? = some (.cells #[.int .i64 a0_0, .int .i64 a0_1, .int .i64 a0_2, .int .i64 a0_3, .string a0_4, .string a0_5, .bool a0_6, .int .i64 a0_7] 23 (0, 0))) ∧ Aside0 (Below w.heap.size w wc))
     case first =>
      have H := HC27.out
      clear HC27
      replace H := Option.bind_eq_some_iff.mp H
      obtain ⟨t217, A280, H⟩ := H
      replace H : (if t217 = true then (rivuletref23_Put.j1 k1 x3_1 a0_6 a0_0 a0_1 a0_2 a0_3 a0_4 a0_5 a0_6 a0_7) else (rivuletref23_Put.j1 k1 x3_1 false a0_0 a0_1 a0_2 a0_3 a0_4 a0_5 a0_6 a0_7)) = some r := H
      have A28 := Aside0.mk A280
      clear A280
      by_cases c29 : t217 = true
      ·subst c29
       have H1 : (rivuletref23_Put.j1 k1 x3_1 a0_6 a0_0 a0_1 a0_2 a0_3 a0_4 a0_5 a0_6 a0_7) = some r := by rw [if_pos rfl] at H; exact H
       clear H
       have H := H1
       clear H1
       have H' := Aside0.mk H
       clear H
       have hcz30_0 : wr.cell? ⟨gb206, 0, none⟩ = some (.int .i64 a0_0) := (blk_cell BK206.out 0).trans rfl
       have hcz30_1 : wr.cell? ⟨gb206, 1, none⟩ = some (.int .i64 a0_1) := (blk_cell BK206.out 1).trans rfl
       have hcz30_2 : wr.cell? ⟨gb206, 2, none⟩ = some (.int .i64 a0_2) := (blk_cell BK206.out 2).trans rfl
       have hcz30_3 : wr.cell? ⟨gb206, 3, none⟩ = some (.int .i64 a0_3) := (blk_cell BK206.out 3).trans rfl
       have hcz30_4 : wr.cell? ⟨gb206, 4, none⟩ = some (.string a0_4) := (blk_cell BK206.out 4).trans rfl
       have hcz30_5 : wr.cell? ⟨gb206, 5, none⟩ = some (.string a0_5) := (blk_cell BK206.out 5).trans rfl
       have hcz30_6 : wr.cell? ⟨gb206, 6, none⟩ = some (.bool a0_6) := (blk_cell BK206.out 6).trans rfl
       have hcz30_7 : wr.cell? ⟨gb206, 7, none⟩ = some (.int .i64 a0_7) := (blk_cell BK206.out 7).trans rfl
       have hfz30_0 := blk_frozen BK206.out 0
       have hfz30_1 := blk_frozen BK206.out 1
       have hfz30_2 := blk_frozen BK206.out 2
       have hfz30_3 := blk_frozen BK206.out 3
       have hfz30_4 := blk_frozen BK206.out 4
       have hfz30_5 := blk_frozen BK206.out 5
       have hfz30_6 := blk_frozen BK206.out 6
       have hfz30_7 := blk_frozen BK206.out 7
       go_wp2_with (first | ((with_reducible refine gate_callee (f := 41) rfl ?_); refine goesL_ (some 34) rfl rfl Tryd.func41 (by kernel_rfl) rfl #[.int .i64 a0_0, .int .i64 4] rfl (by (try simp only [List.map_toArray, List.map_cons, List.map_nil]); first | done | rfl | (simp only [List.length_drop, List.length_take]; rfl)) ?_; (with_reducible refine (rivuletref23_Has.calls a0_0 4 true _ A28.out).mono ?_); rintro e w31 ⟨rfl, hb⟩; refine ⟨_, rfl, ?_⟩; have n0_ := Aside0.mk (Kd.R_below (by (with_reducible repeat (first | apply Kd.R_alloc | apply Kd.R_drewN | apply Kd.R_drew)); exact HO_4.out) hb); have n1_ := Aside0.mk (blk_below (g := gb206) (o := .cells #[.int .i64 a0_0, .int .i64 a0_1, .int .i64 a0_2, .int .i64 a0_3, .string a0_4, .string a0_5, .bool a0_6, .int .i64 a0_7] 23 (0, 0)) (by (with_reducible repeat (first | refine blk_drewN ?_ _ | refine blk_drew ?_ | refine blk_alloc ?_ _)); exact BK206.out) hb); have n2_ := Aside0.mk (below_step (by repeat (first | (with_reducible first | exact HB.out | apply below_alloc | apply pw_below_drewN | apply below_drew1 | refine below_set ?_ GE206.out) | exact HB.out)) hb); clear HO_4; clear BK206; clear HB; have HO_4 := n0_; have BK206 := n1_; have HB := n2_; clear n0_ n1_ n2_; (try clear hb); (try clear hb2); (try clear hk); (try clear hi); have hcz32_0 : w31.cell? ⟨gb206, 0, none⟩ = some (.int .i64 a0_0) := (blk_cell BK206.out 0).trans rfl; have hcz32_1 : w31.cell? ⟨gb206, 1, none⟩ = some (.int .i64 a0_1) := (blk_cell BK206.out 1).trans rfl; have hcz32_2 : w31.cell? ⟨gb206, 2, none⟩ = some (.int .i64 a0_2) := (blk_cell BK206.out 2).trans rfl; have hcz32_3 : w31.cell? ⟨gb206, 3, none⟩ = some (.int .i64 a0_3) := (blk_cell BK206.out 3).trans rfl; have hcz32_4 : w31.cell? ⟨gb206, 4, none⟩ = some (.string a0_4) := (blk_cell BK206.out 4).trans rfl; have hcz32_5 : w31.cell? ⟨gb206, 5, none⟩ = some (.string a0_5) := (blk_cell BK206.out 5).trans rfl; have hcz32_6 : w31.cell? ⟨gb206, 6, none⟩ = some (.bool a0_6) := (blk_cell BK206.out 6).trans rfl; have hcz32_7 : w31.cell? ⟨gb206, 7, none⟩ = some (.int .i64 a0_7) := (blk_cell BK206.out 7).trans rfl; have hfz32_0 := blk_frozen BK206.out 0; have hfz32_1 := blk_frozen BK206.out 1; have hfz32_2 := blk_frozen BK206.out 2; have hfz32_3 := blk_frozen BK206.out 3; have hfz32_4 := blk_frozen BK206.out 4; have hfz32_5 := blk_frozen BK206.out 5; have hfz32_6 := blk_frozen BK206.out 6; have hfz32_7 := blk_frozen BK206.out 7))
       go_meet
       case rel => exact ⟨_, (a0_6), (by first | rfl | (simp; done) | (simp [*]; done)), H', ⟨by have := HK1.out; first | omega | exact Nat.le_refl _⟩, ⟨by (with_reducible repeat (first | refine blk_drewN ?_ _ | refine blk_drew ?_ | refine blk_alloc ?_ _)); exact BK206.out⟩, ⟨by repeat (first | (with_reducible first | exact HB.out | apply below_alloc | apply pw_below_drewN | apply below_drew1 | refine below_set ?_ GE206.out) | exact HB.out)⟩⟩
      ·replace c29 := Bool.eq_false_iff.mpr c29
       subst c29
       have H1 : (rivuletref23_Put.j1 k1 x3_1 false a0_0 a0_1 a0_2 a0_3 a0_4 a0_5 a0_6 a0_7) = some r := by rw [if_neg (show ¬ (false = true) by decide)] at H; exact H
       clear H
       have H := H1
       clear H1
       have H' := Aside0.mk H
       clear H
       have hcz33_0 : wr.cell? ⟨gb206, 0, none⟩ = some (.int .i64 a0_0) := (blk_cell BK206.out 0).trans rfl
       have hcz33_1 : wr.cell? ⟨gb206, 1, none⟩ = some (.int .i64 a0_1) := (blk_cell BK206.out 1).trans rfl
       have hcz33_2 : wr.cell? ⟨gb206, 2, none⟩ = some (.int .i64 a0_2) := (blk_cell BK206.out 2).trans rfl
       have hcz33_3 : wr.cell? ⟨gb206, 3, none⟩ = some (.int .i64 a0_3) := (blk_cell BK206.out 3).trans rfl
       have hcz33_4 : wr.cell? ⟨gb206, 4, none⟩ = some (.string a0_4) := (blk_cell BK206.out 4).trans rfl
       have hcz33_5 : wr.cell? ⟨gb206, 5, none⟩ = some (.string a0_5) := (blk_cell BK206.out 5).trans rfl
       have hcz33_6 : wr.cell? ⟨gb206, 6, none⟩ = some (.bool a0_6) := (blk_cell BK206.out 6).trans rfl
       have hcz33_7 : wr.cell? ⟨gb206, 7, none⟩ = some (.int .i64 a0_7) := (blk_cell BK206.out 7).trans rfl
       have hfz33_0 := blk_frozen BK206.out 0
       have hfz33_1 := blk_frozen BK206.out 1
       have hfz33_2 := blk_frozen BK206.out 2
       have hfz33_3 := blk_frozen BK206.out 3
       have hfz33_4 := blk_frozen BK206.out 4
       have hfz33_5 := blk_frozen BK206.out 5
       have hfz33_6 := blk_frozen BK206.out 6
       have hfz33_7 := blk_frozen BK206.out 7
       go_wp2_with (first | ((with_reducible refine gate_callee (f := 41) rfl ?_); refine goesL_ (some 34) rfl rfl Tryd.func41 (by kernel_rfl) rfl #[.int .i64 a0_0, .int .i64 4] rfl (by (try simp only [List.map_toArray, List.map_cons, List.map_nil]); first | done | rfl | (simp only [List.length_drop, List.length_take]; rfl)) ?_; (with_reducible refine (rivuletref23_Has.calls a0_0 4 false _ A28.out).mono ?_); rintro e w34 ⟨rfl, hb⟩; refine ⟨_, rfl, ?_⟩; have n0_ := Aside0.mk (Kd.R_below (by (with_reducible repeat (first | apply Kd.R_alloc | apply Kd.R_drewN | apply Kd.R_drew)); exact HO_4.out) hb); have n1_ := Aside0.mk (blk_below (g := gb206) (o := .cells #[.int .i64 a0_0, .int .i64 a0_1, .int .i64 a0_2, .int .i64 a0_3, .string a0_4, .string a0_5, .bool a0_6, .int .i64 a0_7] 23 (0, 0)) (by (with_reducible repeat (first | refine blk_drewN ?_ _ | refine blk_drew ?_ | refine blk_alloc ?_ _)); exact BK206.out) hb); have n2_ := Aside0.mk (below_step (by repeat (first | (with_reducible first | exact HB.out | apply below_alloc | apply pw_below_drewN | apply below_drew1 | refine below_set ?_ GE206.out) | exact HB.out)) hb); clear HO_4; clear BK206; clear HB; have HO_4 := n0_; have BK206 := n1_; have HB := n2_; clear n0_ n1_ n2_; (try clear hb); (try clear hb2); (try clear hk); (try clear hi)))
       go_meet
       case rel => exact ⟨_, (false), (by first | rfl | (simp; done) | (simp [*]; done)), H', ⟨by have := HK1.out; first | omega | exact Nat.le_refl _⟩, ⟨by (with_reducible repeat (first | refine blk_drewN ?_ _ | refine blk_drew ?_ | refine blk_alloc ?_ _)); exact BK206.out⟩, ⟨by repeat (first | (with_reducible first | exact HB.out | apply below_alloc | apply pw_below_drewN | apply below_drew1 | refine below_set ?_ GE206.out) | exact HB.out)⟩⟩
     case rest =>
      clear HC27
      try clear c1
      try clear hcv1
      try clear c2
      try clear p2
      try clear q2
      try clear hx2
      try clear c3
      try clear c4
      try clear p6
      try clear hcv11
      try clear c12
      try clear c14
      try clear c14b0
      try clear c16
      try clear c17
      try clear c17b0
      try clear c18
      try clear c18b0
      try clear c20
      try clear c20b0
      try clear c20b1
      try clear c20b2
      try clear p21
      try clear q21
      try clear hx21
      try clear c29
      try clear hcz12_0
      try clear hcz12_1
      try clear hcz12_2
      try clear hcz12_3
      try clear hcz12_4
      try clear hcz12_5
      try clear hcz12_6
      try clear hcz12_7
      try clear hcz21_0
      try clear hcz21_1
      try clear hcz21_2
      try clear hcz21_3
      try clear hcz21_4
      try clear hcz21_5
      try clear hcz21_6
      try clear hcz21_7
      try clear hcz25_0
      try clear hcz25_1
      try clear hcz25_2
      try clear hcz25_3
      try clear hcz25_4
      try clear hcz25_5
      try clear hcz25_6
      try clear hcz25_7
      try clear hcz30_0
      try clear hcz30_1
      try clear hcz30_2
      try clear hcz30_3
      try clear hcz30_4
      try clear hcz30_5
      try clear hcz30_6
      try clear hcz30_7
      try clear hcz32_0
      try clear hcz32_1
      try clear hcz32_2
      try clear hcz32_3
      try clear hcz32_4
      try clear hcz32_5
      try clear hcz32_6
      try clear hcz32_7
      try clear hcz33_0
      try clear hcz33_1
      try clear hcz33_2
      try clear hcz33_3
      try clear hcz33_4
      try clear hcz33_5
      try clear hcz33_6
      try clear hcz33_7
      try clear hcz6_0
      try clear hcz6_1
      try clear hcz6_2
      try clear hcz6_3
      try clear hcz6_4
      try clear hcz6_5
      try clear hcz6_6
      try clear hcz6_7
      try clear hcz8_0
      try clear hcz8_1
      try clear hcz8_2
      try clear hcz8_3
      try clear hcz8_4
      try clear hcz8_5
      try clear hcz8_6
      try clear hcz8_7
      try clear hfz12_0
      try clear hfz12_1
      try clear hfz12_2
      try clear hfz12_3
      try clear hfz12_4
      try clear hfz12_5
      try clear hfz12_6
      try clear hfz12_7
      try clear hfz21_0
      try clear hfz21_1
      try clear hfz21_2
      try clear hfz21_3
      try clear hfz21_4
      try clear hfz21_5
      try clear hfz21_6
      try clear hfz21_7
      try clear hfz25_0
      try clear hfz25_1
      try clear hfz25_2
      try clear hfz25_3
      try clear hfz25_4
      try clear hfz25_5
      try clear hfz25_6
      try clear hfz25_7
      try clear hfz30_0
      try clear hfz30_1
      try clear hfz30_2
      try clear hfz30_3
      try clear hfz30_4
      try clear hfz30_5
      try clear hfz30_6
      try clear hfz30_7
      try clear hfz32_0
      try clear hfz32_1
      try clear hfz32_2
      try clear hfz32_3
      try clear hfz32_4
      try clear hfz32_5
      try clear hfz32_6
      try clear hfz32_7
      try clear hfz33_0
      try clear hfz33_1
      try clear hfz33_2
      try clear hfz33_3
      try clear hfz33_4
      try clear hfz33_5
      try clear hfz33_6
      try clear hfz33_7
      try clear hfz6_0
      try clear hfz6_1
      try clear hfz6_2
      try clear hfz6_3
      try clear hfz6_4
      try clear hfz6_5
      try clear hfz6_6
      try clear hfz6_7
      try clear hfz8_0
      try clear hfz8_1
      try clear hfz8_2
      try clear hfz8_3
      try clear hfz8_4
      try clear hfz8_5
      try clear hfz8_6
      try clear hfz8_7
      try clear hx215_0
      try clear p2
      try clear p215
      try clear q215
      obtain ⟨kq, x38_26, rfl, HA, HJ26, BK206, HB⟩ := hcut
      cases kq with
      | zero => exact absurd HA.out (by simp [rivuletref23_Put.j1])
      | succ kj26 =>
       have H := HA.out
       clear HA
       simp only [rivuletref23_Put.j1] at H
       have HC35 := Aside0.mk H
       clear H
       go_upto_if 38 with (fail)
       go_cut [3] (fun v3 wc => ∃ (kq : Nat) (x3_34 : ByteArray), v3 = .string x3_34 ∧ Aside0 (rivuletref23_Put.j2 kq x3_34 a0_0 a0_1 a0_2 a0_3 a0_4 a0_5 a0_6 a0_7 = some r) ∧ Aside0 (kq ≤ kj26) ∧ Aside0 (wc.heap[gb206]? = some (.cells #[.int .i64 a0_0, .int .i64 a0_1, .int .i64 a0_2, .int .i64 a0_3, .string a0_4, .string a0_5, .bool a0_6, .int .i64 a0_7] 23 (0, 0))) ∧ Aside0 (Below w.heap.size w wc))
       case first =>
        have H := HC35.out
        clear HC35
        by_cases c36 : x38_26 = true
        ·subst c36
         have H1 : (if x3_1.size + 1 ≤ 9223372036854775807 then (rivuletref23_Put.j2 kj26 (x3_1 ++ (⟨#[1]⟩ : ByteArray)) a0_0 a0_1 a0_2 a0_3 a0_4 a0_5 a0_6 a0_7) else (none)) = some r := by rw [if_pos rfl] at H; exact H
         clear H
         have H := H1
         clear H1
         by_cases c37 : x3_1.size + 1 ≤ 9223372036854775807
         ·rw [if_pos c37] at H
          have c37b0 := eq_true c37
          have c37b1 : decide (x3_1.size + 1 ≤ 9223372036854775807) = true := decide_eq_true c37
          try have c37b2 : (9223372036854775807 < x3_1.size + 1) = False := eq_false (Nat.not_lt.2 c37)
          have H' := Aside0.mk H
          clear H
          go_wp2
          go_meet
          case rel => exact ⟨_, (x3_1 ++ (⟨#[1]⟩ : ByteArray)), (by first | rfl | (simp; done) | (simp [*]; done)), H', ⟨by have := HK1.out; have := HJ26.out; first | omega | exact Nat.le_refl _⟩, ⟨by (with_reducible repeat (first | refine blk_drewN ?_ _ | refine blk_drew ?_ | refine blk_alloc ?_ _)); exact BK206.out⟩, ⟨by repeat (first | (with_reducible first | exact HB.out | apply below_alloc | apply pw_below_drewN | apply below_drew1 | refine below_set ?_ GE206.out) | exact HB.out)⟩⟩
         ·rw [if_neg c37] at H
          exact absurd H (by simp)
        ·replace c36 := Bool.eq_false_iff.mpr c36
         subst c36
         have H1 : (rivuletref23_Put.j2 kj26 x3_1 a0_0 a0_1 a0_2 a0_3 a0_4 a0_5 a0_6 a0_7) = some r := by rw [if_neg (show ¬ (false = true) by decide)] at H; exact H
         clear H
         have H := H1
         clear H1
         have H' := Aside0.mk H
         clear H
         go_wp2
         go_meet
         case rel => exact ⟨_, (x3_1), (by first | rfl | (simp; done) | (simp [*]; done)), H', ⟨by have := HK1.out; have := HJ26.out; first | omega | exact Nat.le_refl _⟩, ⟨by (with_reducible repeat (first | refine blk_drewN ?_ _ | refine blk_drew ?_ | refine blk_alloc ?_ _)); exact BK206.out⟩, ⟨by repeat (first | (with_reducible first | exact HB.out | apply below_alloc | apply pw_below_drewN | apply below_drew1 | refine below_set ?_ GE206.out) | exact HB.out)⟩⟩
       case rest =>
        clear HC35
        try clear c1
        try clear hcv1
        try clear c2
        try clear p2
        try clear q2
        try clear hx2
        try clear c3
        try clear c4
        try clear p6
        try clear hcv11
        try clear c12
        try clear c14
        try clear c14b0
        try clear c16
        try clear c17
        try clear c17b0
        try clear c18
        try clear c18b0
        try clear c20
        try clear c20b0
        try clear c20b1
        try clear c20b2
        try clear p21
        try clear q21
        try clear hx21
        try clear c29
        try clear c36
        try clear c37
        try clear c37b0
        try clear c37b1
        try clear c37b2
        try clear hcz12_0
        try clear hcz12_1
        try clear hcz12_2
        try clear hcz12_3
        try clear hcz12_4
        try clear hcz12_5
        try clear hcz12_6
        try clear hcz12_7
        try clear hcz21_0
        try clear hcz21_1
        try clear hcz21_2
        try clear hcz21_3
        try clear hcz21_4
        try clear hcz21_5
        try clear hcz21_6
        try clear hcz21_7
        try clear hcz25_0
        try clear hcz25_1
        try clear hcz25_2
        try clear hcz25_3
        try clear hcz25_4
        try clear hcz25_5
        try clear hcz25_6
        try clear hcz25_7
        try clear hcz30_0
        try clear hcz30_1
        try clear hcz30_2
        try clear hcz30_3
        try clear hcz30_4
        try clear hcz30_5
        try clear hcz30_6
        try clear hcz30_7
        try clear hcz32_0
        try clear hcz32_1
        try clear hcz32_2
        try clear hcz32_3
        try clear hcz32_4
        try clear hcz32_5
        try clear hcz32_6
        try clear hcz32_7
        try clear hcz33_0
        try clear hcz33_1
        try clear hcz33_2
        try clear hcz33_3
        try clear hcz33_4
        try clear hcz33_5
        try clear hcz33_6
        try clear hcz33_7
        try clear hcz6_0
        try clear hcz6_1
        try clear hcz6_2
        try clear hcz6_3
        try clear hcz6_4
        try clear hcz6_5
        try clear hcz6_6
        try clear hcz6_7
        try clear hcz8_0
        try clear hcz8_1
        try clear hcz8_2
        try clear hcz8_3
        try clear hcz8_4
        try clear hcz8_5
        try clear hcz8_6
        try clear hcz8_7
        try clear hfz12_0
        try clear hfz12_1
        try clear hfz12_2
        try clear hfz12_3
        try clear hfz12_4
        try clear hfz12_5
        try clear hfz12_6
        try clear hfz12_7
        try clear hfz21_0
        try clear hfz21_1
        try clear hfz21_2
        try clear hfz21_3
        try clear hfz21_4
        try clear hfz21_5
        try clear hfz21_6
        try clear hfz21_7
        try clear hfz25_0
        try clear hfz25_1
        try clear hfz25_2
        try clear hfz25_3
        try clear hfz25_4
        try clear hfz25_5
        try clear hfz25_6
        try clear hfz25_7
        try clear hfz30_0
        try clear hfz30_1
        try clear hfz30_2
        try clear hfz30_3
        try clear hfz30_4
        try clear hfz30_5
        try clear hfz30_6
        try clear hfz30_7
        try clear hfz32_0
        try clear hfz32_1
        try clear hfz32_2
        try clear hfz32_3
        try clear hfz32_4
        try clear hfz32_5
        try clear hfz32_6
        try clear hfz32_7
        try clear hfz33_0
        try clear hfz33_1
        try clear hfz33_2
        try clear hfz33_3
        try clear hfz33_4
        try clear hfz33_5
        try clear hfz33_6
        try clear hfz33_7
        try clear hfz6_0
        try clear hfz6_1
        try clear hfz6_2
        try clear hfz6_3
        try clear hfz6_4
        try clear hfz6_5
        try clear hfz6_6
        try clear hfz6_7
        try clear hfz8_0
        try clear hfz8_1
        try clear hfz8_2
        try clear hfz8_3
        try clear hfz8_4
        try clear hfz8_5
        try clear hfz8_6
        try clear hfz8_7
        try clear hx215_0
        try clear p2
        try clear p21
        try clear p215
        try clear p6
        try clear q2
        try clear q21
        try clear q215
        obtain ⟨kq, x3_34, rfl, HA, HJ34, BK206, HB⟩ := hcut
        cases kq with
        | zero => exact absurd HA.out (by simp [rivuletref23_Put.j2])
        | succ kj34 =>
         have H := HA.out
         clear HA
         simp only [rivuletref23_Put.j2] at H
         have HC38 := Aside0.mk H
         clear H
         go_upto_region 12 with (fail)
         go_cut [48] (fun v48 wc => ∃ (kq : Nat) (x48_37 : Bool), v48 = .bool x48_37 ∧ Aside0 (rivuletref23_Put.j3 kq x3_34 x48_37 a0_0 a0_1 a0_2 a0_3 a0_4 a0_5 a0_6 a0_7 = some r) ∧ Aside0 (kq ≤ kj34) ∧ Aside0 (wc.heap[gb206]? = some (.cells #[.int .i64 a0_0, .int .i64 a0_1, .int .i64 a0_2, .int .i64 a0_3, .string a0_4, .string a0_5, .bool a0_6, .int .i64 a0_7] 23 (0, 0))) ∧ Aside0 (Below w.heap.size w wc))
         case first =>
          have H := HC38.out
          clear HC38
          replace H := Option.bind_eq_some_iff.mp H
          obtain ⟨t218, A390, H⟩ := H
          replace H : (if t218 = true then (rivuletref23_Put.j3 kj34 x3_34 (!a0_6) a0_0 a0_1 a0_2 a0_3 a0_4 a0_5 a0_6 a0_7) else (rivuletref23_Put.j3 kj34 x3_34 false a0_0 a0_1 a0_2 a0_3 a0_4 a0_5 a0_6 a0_7)) = some r := H
          have A39 := Aside0.mk A390
          clear A390
          by_cases c40 : t218 = true
          ·subst c40
           have H1 : (rivuletref23_Put.j3 kj34 x3_34 (!a0_6) a0_0 a0_1 a0_2 a0_3 a0_4 a0_5 a0_6 a0_7) = some r := by rw [if_pos rfl] at H; exact H
           clear H
           have H := H1
           clear H1
           have H' := Aside0.mk H
           clear H
           have hcz41_0 : wc.cell? ⟨gb206, 0, none⟩ = some (.int .i64 a0_0) := (blk_cell BK206.out 0).trans rfl
           have hcz41_1 : wc.cell? ⟨gb206, 1, none⟩ = some (.int .i64 a0_1) := (blk_cell BK206.out 1).trans rfl
           have hcz41_2 : wc.cell? ⟨gb206, 2, none⟩ = some (.int .i64 a0_2) := (blk_cell BK206.out 2).trans rfl
           have hcz41_3 : wc.cell? ⟨gb206, 3, none⟩ = some (.int .i64 a0_3) := (blk_cell BK206.out 3).trans rfl
           have hcz41_4 : wc.cell? ⟨gb206, 4, none⟩ = some (.string a0_4) := (blk_cell BK206.out 4).trans rfl
           have hcz41_5 : wc.cell? ⟨gb206, 5, none⟩ = some (.string a0_5) := (blk_cell BK206.out 5).trans rfl
           have hcz41_6 : wc.cell? ⟨gb206, 6, none⟩ = some (.bool a0_6) := (blk_cell BK206.out 6).trans rfl
           have hcz41_7 : wc.cell? ⟨gb206, 7, none⟩ = some (.int .i64 a0_7) := (blk_cell BK206.out 7).trans rfl
           have hfz41_0 := blk_frozen BK206.out 0
           have hfz41_1 := blk_frozen BK206.out 1
           have hfz41_2 := blk_frozen BK206.out 2
           have hfz41_3 := blk_frozen BK206.out 3
           have hfz41_4 := blk_frozen BK206.out 4
           have hfz41_5 := blk_frozen BK206.out 5
           have hfz41_6 := blk_frozen BK206.out 6
           have hfz41_7 := blk_frozen BK206.out 7
           go_wp2_with (first | ((with_reducible refine gate_callee (f := 41) rfl ?_); refine goesL_ (some 43) rfl rfl Tryd.func41 (by kernel_rfl) rfl #[.int .i64 a0_0, .int .i64 4] rfl (by (try simp only [List.map_toArray, List.map_cons, List.map_nil]); first | done | rfl | (simp only [List.length_drop, List.length_take]; rfl)) ?_; (with_reducible refine (rivuletref23_Has.calls a0_0 4 true _ A39.out).mono ?_); rintro e w42 ⟨rfl, hb⟩; refine ⟨_, rfl, ?_⟩; have n0_ := Aside0.mk (blk_below (g := gb206) (o := .cells #[.int .i64 a0_0, .int .i64 a0_1, .int .i64 a0_2, .int .i64 a0_3, .string a0_4, .string a0_5, .bool a0_6, .int .i64 a0_7] 23 (0, 0)) (by (with_reducible repeat (first | refine blk_drewN ?_ _ | refine blk_drew ?_ | refine blk_alloc ?_ _)); exact BK206.out) hb); have n1_ := Aside0.mk (below_step (by repeat (first | (with_reducible first | exact HB.out | apply below_alloc | apply pw_below_drewN | apply below_drew1 | refine below_set ?_ GE206.out) | exact HB.out)) hb); clear BK206; clear HB; have BK206 := n0_; have HB := n1_; clear n0_ n1_; (try clear hb); (try clear hb2); (try clear hk); (try clear hi); have hcz43_0 : w42.cell? ⟨gb206, 0, none⟩ = some (.int .i64 a0_0) := (blk_cell BK206.out 0).trans rfl; have hcz43_1 : w42.cell? ⟨gb206, 1, none⟩ = some (.int .i64 a0_1) := (blk_cell BK206.out 1).trans rfl; have hcz43_2 : w42.cell? ⟨gb206, 2, none⟩ = some (.int .i64 a0_2) := (blk_cell BK206.out 2).trans rfl; have hcz43_3 : w42.cell? ⟨gb206, 3, none⟩ = some (.int .i64 a0_3) := (blk_cell BK206.out 3).trans rfl; have hcz43_4 : w42.cell? ⟨gb206, 4, none⟩ = some (.string a0_4) := (blk_cell BK206.out 4).trans rfl; have hcz43_5 : w42.cell? ⟨gb206, 5, none⟩ = some (.string a0_5) := (blk_cell BK206.out 5).trans rfl; have hcz43_6 : w42.cell? ⟨gb206, 6, none⟩ = some (.bool a0_6) := (blk_cell BK206.out 6).trans rfl; have hcz43_7 : w42.cell? ⟨gb206, 7, none⟩ = some (.int .i64 a0_7) := (blk_cell BK206.out 7).trans rfl; have hfz43_0 := blk_frozen BK206.out 0; have hfz43_1 := blk_frozen BK206.out 1; have hfz43_2 := blk_frozen BK206.out 2; have hfz43_3 := blk_frozen BK206.out 3; have hfz43_4 := blk_frozen BK206.out 4; have hfz43_5 := blk_frozen BK206.out 5; have hfz43_6 := blk_frozen BK206.out 6; have hfz43_7 := blk_frozen BK206.out 7))
           go_meet
           case rel => exact ⟨_, (!a0_6), (by first | rfl | (simp; done) | (simp [*]; done)), H', ⟨by have := HK1.out; have := HJ26.out; have := HJ34.out; first | omega | exact Nat.le_refl _⟩, ⟨by (with_reducible repeat (first | refine blk_drewN ?_ _ | refine blk_drew ?_ | refine blk_alloc ?_ _)); exact BK206.out⟩, ⟨by repeat (first | (with_reducible first | exact HB.out | apply below_alloc | apply pw_below_drewN | apply below_drew1 | refine below_set ?_ GE206.out) | exact HB.out)⟩⟩
          ·replace c40 := Bool.eq_false_iff.mpr c40
           subst c40
           have H1 : (rivuletref23_Put.j3 kj34 x3_34 false a0_0 a0_1 a0_2 a0_3 a0_4 a0_5 a0_6 a0_7) = some r := by rw [if_neg (show ¬ (false = true) by decide)] at H; exact H
           clear H
           have H := H1
           clear H1
           have H' := Aside0.mk H
           clear H
           have hcz44_0 : wc.cell? ⟨gb206, 0, none⟩ = some (.int .i64 a0_0) := (blk_cell BK206.out 0).trans rfl
           have hcz44_1 : wc.cell? ⟨gb206, 1, none⟩ = some (.int .i64 a0_1) := (blk_cell BK206.out 1).trans rfl
           have hcz44_2 : wc.cell? ⟨gb206, 2, none⟩ = some (.int .i64 a0_2) := (blk_cell BK206.out 2).trans rfl
           have hcz44_3 : wc.cell? ⟨gb206, 3, none⟩ = some (.int .i64 a0_3) := (blk_cell BK206.out 3).trans rfl
           have hcz44_4 : wc.cell? ⟨gb206, 4, none⟩ = some (.string a0_4) := (blk_cell BK206.out 4).trans rfl
           have hcz44_5 : wc.cell? ⟨gb206, 5, none⟩ = some (.string a0_5) := (blk_cell BK206.out 5).trans rfl
           have hcz44_6 : wc.cell? ⟨gb206, 6, none⟩ = some (.bool a0_6) := (blk_cell BK206.out 6).trans rfl
           have hcz44_7 : wc.cell? ⟨gb206, 7, none⟩ = some (.int .i64 a0_7) := (blk_cell BK206.out 7).trans rfl
           have hfz44_0 := blk_frozen BK206.out 0
           have hfz44_1 := blk_frozen BK206.out 1
           have hfz44_2 := blk_frozen BK206.out 2
           have hfz44_3 := blk_frozen BK206.out 3
           have hfz44_4 := blk_frozen BK206.out 4
           have hfz44_5 := blk_frozen BK206.out 5
           have hfz44_6 := blk_frozen BK206.out 6
           have hfz44_7 := blk_frozen BK206.out 7
           go_wp2_with (first | ((with_reducible refine gate_callee (f := 41) rfl ?_); refine goesL_ (some 43) rfl rfl Tryd.func41 (by kernel_rfl) rfl #[.int .i64 a0_0, .int .i64 4] rfl (by (try simp only [List.map_toArray, List.map_cons, List.map_nil]); first | done | rfl | (simp only [List.length_drop, List.length_take]; rfl)) ?_; (with_reducible refine (rivuletref23_Has.calls a0_0 4 false _ A39.out).mono ?_); rintro e w45 ⟨rfl, hb⟩; refine ⟨_, rfl, ?_⟩; have n0_ := Aside0.mk (blk_below (g := gb206) (o := .cells #[.int .i64 a0_0, .int .i64 a0_1, .int .i64 a0_2, .int .i64 a0_3, .string a0_4, .string a0_5, .bool a0_6, .int .i64 a0_7] 23 (0, 0)) (by (with_reducible repeat (first | refine blk_drewN ?_ _ | refine blk_drew ?_ | refine blk_alloc ?_ _)); exact BK206.out) hb); have n1_ := Aside0.mk (below_step (by repeat (first | (with_reducible first | exact HB.out | apply below_alloc | apply pw_below_drewN | apply below_drew1 | refine below_set ?_ GE206.out) | exact HB.out)) hb); clear BK206; clear HB; have BK206 := n0_; have HB := n1_; clear n0_ n1_; (try clear hb); (try clear hb2); (try clear hk); (try clear hi)))
           go_meet
           case rel => exact ⟨_, (false), (by first | rfl | (simp; done) | (simp [*]; done)), H', ⟨by have := HK1.out; have := HJ26.out; have := HJ34.out; first | omega | exact Nat.le_refl _⟩, ⟨by (with_reducible repeat (first | refine blk_drewN ?_ _ | refine blk_drew ?_ | refine blk_alloc ?_ _)); exact BK206.out⟩, ⟨by repeat (first | (with_reducible first | exact HB.out | apply below_alloc | apply pw_below_drewN | apply below_drew1 | refine below_set ?_ GE206.out) | exact HB.out)⟩⟩
         case rest =>
          clear HC38
          try clear c1
          try clear hcv1
          try clear c2
          try clear p2
          try clear q2
          try clear hx2
          try clear c3
          try clear c4
          try clear p6
          try clear hcv11
          try clear c12
          try clear c14
          try clear c14b0
          try clear c16
          try clear c17
          try clear c17b0
          try clear c18
          try clear c18b0
          try clear c20
          try clear c20b0
          try clear c20b1
          try clear c20b2
          try clear p21
          try clear q21
          try clear hx21
          try clear c29
          try clear c36
          try clear c37
          try clear c37b0
          try clear c37b1
          try clear c37b2
          try clear c40
          try clear c41
          try clear hcz12_0
          try clear hcz12_1
          try clear hcz12_2
          try clear hcz12_3
          try clear hcz12_4
          try clear hcz12_5
          try clear hcz12_6
          try clear hcz12_7
          try clear hcz21_0
          try clear hcz21_1
          try clear hcz21_2
          try clear hcz21_3
          try clear hcz21_4
          try clear hcz21_5
          try clear hcz21_6
          try clear hcz21_7
          try clear hcz25_0
          try clear hcz25_1
          try clear hcz25_2
          try clear hcz25_3
          try clear hcz25_4
          try clear hcz25_5
          try clear hcz25_6
          try clear hcz25_7
          try clear hcz30_0
          try clear hcz30_1
          try clear hcz30_2
          try clear hcz30_3
          try clear hcz30_4
          try clear hcz30_5
          try clear hcz30_6
          try clear hcz30_7
          try clear hcz32_0
          try clear hcz32_1
          try clear hcz32_2
          try clear hcz32_3
          try clear hcz32_4
          try clear hcz32_5
          try clear hcz32_6
          try clear hcz32_7
          try clear hcz33_0
          try clear hcz33_1
          try clear hcz33_2
          try clear hcz33_3
          try clear hcz33_4
          try clear hcz33_5
          try clear hcz33_6
          try clear hcz33_7
          try clear hcz41_0
          try clear hcz41_1
          try clear hcz41_2
          try clear hcz41_3
          try clear hcz41_4
          try clear hcz41_5
          try clear hcz41_6
          try clear hcz41_7
          try clear hcz43_0
          try clear hcz43_1
          try clear hcz43_2
          try clear hcz43_3
          try clear hcz43_4
          try clear hcz43_5
          try clear hcz43_6
          try clear hcz43_7
          try clear hcz44_0
          try clear hcz44_1
          try clear hcz44_2
          try clear hcz44_3
          try clear hcz44_4
          try clear hcz44_5
          try clear hcz44_6
          try clear hcz44_7
          try clear hcz6_0
          try clear hcz6_1
          try clear hcz6_2
          try clear hcz6_3
          try clear hcz6_4
          try clear hcz6_5
          try clear hcz6_6
          try clear hcz6_7
          try clear hcz8_0
          try clear hcz8_1
          try clear hcz8_2
          try clear hcz8_3
          try clear hcz8_4
          try clear hcz8_5
          try clear hcz8_6
          try clear hcz8_7
          try clear hfz12_0
          try clear hfz12_1
          try clear hfz12_2
          try clear hfz12_3
          try clear hfz12_4
          try clear hfz12_5
          try clear hfz12_6
          try clear hfz12_7
          try clear hfz21_0
          try clear hfz21_1
          try clear hfz21_2
          try clear hfz21_3
          try clear hfz21_4
          try clear hfz21_5
          try clear hfz21_6
          try clear hfz21_7
          try clear hfz25_0
          try clear hfz25_1
          try clear hfz25_2
          try clear hfz25_3
          try clear hfz25_4
          try clear hfz25_5
          try clear hfz25_6
          try clear hfz25_7
          try clear hfz30_0
          try clear hfz30_1
          try clear hfz30_2
          try clear hfz30_3
          try clear hfz30_4
          try clear hfz30_5
          try clear hfz30_6
          try clear hfz30_7
          try clear hfz32_0
          try clear hfz32_1
          try clear hfz32_2
          try clear hfz32_3
          try clear hfz32_4
          try clear hfz32_5
          try clear hfz32_6
          try clear hfz32_7
          try clear hfz33_0
          try clear hfz33_1
          try clear hfz33_2
          try clear hfz33_3
          try clear hfz33_4
          try clear hfz33_5
          try clear hfz33_6
          try clear hfz33_7
          try clear hfz41_0
          try clear hfz41_1
          try clear hfz41_2
          try clear hfz41_3
          try clear hfz41_4
          try clear hfz41_5
          try clear hfz41_6
          try clear hfz41_7
          try clear hfz43_0
          try clear hfz43_1
          try clear hfz43_2
          try clear hfz43_3
          try clear hfz43_4
          try clear hfz43_5
          try clear hfz43_6
          try clear hfz43_7
          try clear hfz44_0
          try clear hfz44_1
          try clear hfz44_2
          try clear hfz44_3
          try clear hfz44_4
          try clear hfz44_5
          try clear hfz44_6
          try clear hfz44_7
          try clear hfz6_0
          try clear hfz6_1
          try clear hfz6_2
          try clear hfz6_3
          try clear hfz6_4
          try clear hfz6_5
          try clear hfz6_6
          try clear hfz6_7
          try clear hfz8_0
          try clear hfz8_1
          try clear hfz8_2
          try clear hfz8_3
          try clear hfz8_4
          try clear hfz8_5
          try clear hfz8_6
          try clear hfz8_7
          try clear hx215_0
          try clear p2
          try clear p21
          try clear p215
          try clear p6
          try clear q2
          try clear q21
          try clear q215
          obtain ⟨kq, x48_37, rfl, HA, HJ37, BK206, HB⟩ := hcut
          cases kq with
          | zero => exact absurd HA.out (by simp [rivuletref23_Put.j3])
          | succ kj37 =>
           have H := HA.out
           clear HA
           simp only [rivuletref23_Put.j3] at H
           have HC46 := Aside0.mk H
           clear H
           go_upto_if 48 with (fail)
           go_cut [3] (fun v3 wc => ∃ (kq : Nat) (x3_45 : ByteArray), v3 = .string x3_45 ∧ Aside0 (rivuletref23_Put.j4 kq x3_45 a0_0 a0_1 a0_2 a0_3 a0_4 a0_5 a0_6 a0_7 = some r) ∧ Aside0 (kq ≤ kj37) ∧ Aside0 (wc.heap[gb206]? = some (.cells #[.int .i64 a0_0, .int .i64 a0_1, .int .i64 a0_2, .int .i64 a0_3, .string a0_4, .string a0_5, .bool a0_6, .int .i64 a0_7] 23 (0, 0))) ∧ Aside0 (Below w.heap.size w wc))
           case first =>
            have H := HC46.out
            clear HC46
            by_cases c47 : x48_37 = true
            ·subst c47
             have H1 : (if x3_34.size + 1 ≤ 9223372036854775807 then (rivuletref23_Put.j4 kj37 (x3_34 ++ (⟨#[0]⟩ : ByteArray)) a0_0 a0_1 a0_2 a0_3 a0_4 a0_5 a0_6 a0_7) else (none)) = some r := by rw [if_pos rfl] at H; exact H
             clear H
             have H := H1
             clear H1
             by_cases c48 : x3_34.size + 1 ≤ 9223372036854775807
             ·rw [if_pos c48] at H
              have c48b0 := eq_true c48
              have c48b1 : decide (x3_34.size + 1 ≤ 9223372036854775807) = true := decide_eq_true c48
              try have c48b2 : (9223372036854775807 < x3_34.size + 1) = False := eq_false (Nat.not_lt.2 c48)
              have H' := Aside0.mk H
              clear H
              go_wp2
              go_meet
              case rel => exact ⟨_, (x3_34 ++ (⟨#[0]⟩ : ByteArray)), (by first | rfl | (simp; done) | (simp [*]; done)), H', ⟨by have := HK1.out; have := HJ26.out; have := HJ34.out; have := HJ37.out; first | omega | exact Nat.le_refl _⟩, ⟨by (with_reducible repeat (first | refine blk_drewN ?_ _ | refine blk_drew ?_ | refine blk_alloc ?_ _)); exact BK206.out⟩, ⟨by repeat (first | (with_reducible first | exact HB.out | apply below_alloc | apply pw_below_drewN | apply below_drew1 | refine below_set ?_ GE206.out) | exact HB.out)⟩⟩
             ·rw [if_neg c48] at H
              exact absurd H (by simp)
            ·replace c47 := Bool.eq_false_iff.mpr c47
             subst c47
             have H1 : (rivuletref23_Put.j4 kj37 x3_34 a0_0 a0_1 a0_2 a0_3 a0_4 a0_5 a0_6 a0_7) = some r := by rw [if_neg (show ¬ (false = true) by decide)] at H; exact H
             clear H
             have H := H1
             clear H1
             have H' := Aside0.mk H
             clear H
             go_wp2
             go_meet
             case rel => exact ⟨_, (x3_34), (by first | rfl | (simp; done) | (simp [*]; done)), H', ⟨by have := HK1.out; have := HJ26.out; have := HJ34.out; have := HJ37.out; first | omega | exact Nat.le_refl _⟩, ⟨by (with_reducible repeat (first | refine blk_drewN ?_ _ | refine blk_drew ?_ | refine blk_alloc ?_ _)); exact BK206.out⟩, ⟨by repeat (first | (with_reducible first | exact HB.out | apply below_alloc | apply pw_below_drewN | apply below_drew1 | refine below_set ?_ GE206.out) | exact HB.out)⟩⟩
           case rest =>
            clear HC46
            try clear c1
            try clear hcv1
            try clear c2
            try clear p2
            try clear q2
            try clear hx2
            try clear c3
            try clear c4
            try clear p6
            try clear hcv11
            try clear c12
            try clear c14
            try clear c14b0
            try clear c16
            try clear c17
            try clear c17b0
            try clear c18
            try clear c18b0
            try clear c20
            try clear c20b0
            try clear c20b1
            try clear c20b2
            try clear p21
            try clear q21
            try clear hx21
            try clear c29
            try clear c36
            try clear c37
            try clear c37b0
            try clear c37b1
            try clear c37b2
            try clear c40
            try clear c41
            try clear c47
            try clear c48
            try clear c48b0
            try clear c48b1
            try clear c48b2
            try clear hcz12_0
            try clear hcz12_1
            try clear hcz12_2
            try clear hcz12_3
            try clear hcz12_4
            try clear hcz12_5
            try clear hcz12_6
            try clear hcz12_7
            try clear hcz21_0
            try clear hcz21_1
            try clear hcz21_2
            try clear hcz21_3
            try clear hcz21_4
            try clear hcz21_5
            try clear hcz21_6
            try clear hcz21_7
            try clear hcz25_0
            try clear hcz25_1
            try clear hcz25_2
            try clear hcz25_3
            try clear hcz25_4
            try clear hcz25_5
            try clear hcz25_6
            try clear hcz25_7
            try clear hcz30_0
            try clear hcz30_1
            try clear hcz30_2
            try clear hcz30_3
            try clear hcz30_4
            try clear hcz30_5
            try clear hcz30_6
            try clear hcz30_7
            try clear hcz32_0
            try clear hcz32_1
            try clear hcz32_2
            try clear hcz32_3
            try clear hcz32_4
            try clear hcz32_5
            try clear hcz32_6
            try clear hcz32_7
            try clear hcz33_0
            try clear hcz33_1
            try clear hcz33_2
            try clear hcz33_3
            try clear hcz33_4
            try clear hcz33_5
            try clear hcz33_6
            try clear hcz33_7
            try clear hcz41_0
            try clear hcz41_1
            try clear hcz41_2
            try clear hcz41_3
            try clear hcz41_4
            try clear hcz41_5
            try clear hcz41_6
            try clear hcz41_7
            try clear hcz43_0
            try clear hcz43_1
            try clear hcz43_2
            try clear hcz43_3
            try clear hcz43_4
            try clear hcz43_5
            try clear hcz43_6
            try clear hcz43_7
            try clear hcz44_0
            try clear hcz44_1
            try clear hcz44_2
            try clear hcz44_3
            try clear hcz44_4
            try clear hcz44_5
            try clear hcz44_6
            try clear hcz44_7
            try clear hcz6_0
            try clear hcz6_1
            try clear hcz6_2
            try clear hcz6_3
            try clear hcz6_4
            try clear hcz6_5
            try clear hcz6_6
            try clear hcz6_7
            try clear hcz8_0
            try clear hcz8_1
            try clear hcz8_2
            try clear hcz8_3
            try clear hcz8_4
            try clear hcz8_5
            try clear hcz8_6
            try clear hcz8_7
            try clear hfz12_0
            try clear hfz12_1
            try clear hfz12_2
            try clear hfz12_3
            try clear hfz12_4
            try clear hfz12_5
            try clear hfz12_6
            try clear hfz12_7
            try clear hfz21_0
            try clear hfz21_1
            try clear hfz21_2
            try clear hfz21_3
            try clear hfz21_4
            try clear hfz21_5
            try clear hfz21_6
            try clear hfz21_7
            try clear hfz25_0
            try clear hfz25_1
            try clear hfz25_2
            try clear hfz25_3
            try clear hfz25_4
            try clear hfz25_5
            try clear hfz25_6
            try clear hfz25_7
            try clear hfz30_0
            try clear hfz30_1
            try clear hfz30_2
            try clear hfz30_3
            try clear hfz30_4
            try clear hfz30_5
            try clear hfz30_6
            try clear hfz30_7
            try clear hfz32_0
            try clear hfz32_1
            try clear hfz32_2
            try clear hfz32_3
            try clear hfz32_4
            try clear hfz32_5
            try clear hfz32_6
            try clear hfz32_7
            try clear hfz33_0
            try clear hfz33_1
            try clear hfz33_2
            try clear hfz33_3
            try clear hfz33_4
            try clear hfz33_5
            try clear hfz33_6
            try clear hfz33_7
            try clear hfz41_0
            try clear hfz41_1
            try clear hfz41_2
            try clear hfz41_3
            try clear hfz41_4
            try clear hfz41_5
            try clear hfz41_6
            try clear hfz41_7
            try clear hfz43_0
            try clear hfz43_1
            try clear hfz43_2
            try clear hfz43_3
            try clear hfz43_4
            try clear hfz43_5
            try clear hfz43_6
            try clear hfz43_7
            try clear hfz44_0
            try clear hfz44_1
            try clear hfz44_2
            try clear hfz44_3
            try clear hfz44_4
            try clear hfz44_5
            try clear hfz44_6
            try clear hfz44_7
            try clear hfz6_0
            try clear hfz6_1
            try clear hfz6_2
            try clear hfz6_3
            try clear hfz6_4
            try clear hfz6_5
            try clear hfz6_6
            try clear hfz6_7
            try clear hfz8_0
            try clear hfz8_1
            try clear hfz8_2
            try clear hfz8_3
            try clear hfz8_4
            try clear hfz8_5
            try clear hfz8_6
            try clear hfz8_7
            try clear hx215_0
            try clear p2
            try clear p21
            try clear p215
            try clear p6
            try clear q2
            try clear q21
            try clear q215
            obtain ⟨kq, x3_45, rfl, HA, HJ45, BK206, HB⟩ := hcut
            cases kq with
            | zero => exact absurd HA.out (by simp [rivuletref23_Put.j4])
            | succ kj45 =>
             have H := HA.out
             clear HA
             simp only [rivuletref23_Put.j4] at H
             replace H := Option.bind_eq_some_iff.mp H
             obtain ⟨t219, A490, H⟩ := H
             replace H : (if t219 = true then ((rivuletref01_Text.f kj45 a0_4).bind fun t220 => (if x3_45.size + t220.size ≤ 9223372036854775807 then (rivuletref23_Put.j5 kj45 (x3_45 ++ t220) a0_0 a0_1 a0_2 a0_3 a0_4 a0_5 a0_6 a0_7) else (none))) else (rivuletref23_Put.j5 kj45 x3_45 a0_0 a0_1 a0_2 a0_3 a0_4 a0_5 a0_6 a0_7)) = some r := H
             have A49 := Aside0.mk A490
             clear A490
             have HC50 := Aside0.mk H
             clear H
             have hcz51_0 : wc.cell? ⟨gb206, 0, none⟩ = some (.int .i64 a0_0) := (blk_cell BK206.out 0).trans rfl
             have hcz51_1 : wc.cell? ⟨gb206, 1, none⟩ = some (.int .i64 a0_1) := (blk_cell BK206.out 1).trans rfl
             have hcz51_2 : wc.cell? ⟨gb206, 2, none⟩ = some (.int .i64 a0_2) := (blk_cell BK206.out 2).trans rfl
             have hcz51_3 : wc.cell? ⟨gb206, 3, none⟩ = some (.int .i64 a0_3) := (blk_cell BK206.out 3).trans rfl
             have hcz51_4 : wc.cell? ⟨gb206, 4, none⟩ = some (.string a0_4) := (blk_cell BK206.out 4).trans rfl
             have hcz51_5 : wc.cell? ⟨gb206, 5, none⟩ = some (.string a0_5) := (blk_cell BK206.out 5).trans rfl
             have hcz51_6 : wc.cell? ⟨gb206, 6, none⟩ = some (.bool a0_6) := (blk_cell BK206.out 6).trans rfl
             have hcz51_7 : wc.cell? ⟨gb206, 7, none⟩ = some (.int .i64 a0_7) := (blk_cell BK206.out 7).trans rfl
             have hfz51_0 := blk_frozen BK206.out 0
             have hfz51_1 := blk_frozen BK206.out 1
             have hfz51_2 := blk_frozen BK206.out 2
             have hfz51_3 := blk_frozen BK206.out 3
             have hfz51_4 := blk_frozen BK206.out 4
             have hfz51_5 := blk_frozen BK206.out 5
             have hfz51_6 := blk_frozen BK206.out 6
             have hfz51_7 := blk_frozen BK206.out 7
             go_upto_if 53 with (first | ((with_reducible refine gate_callee (f := 41) rfl ?_); refine goesL_ (some 53) rfl rfl Tryd.func41 (by kernel_rfl) rfl #[.int .i64 a0_0, .int .i64 5] rfl (by (try simp only [List.map_toArray, List.map_cons, List.map_nil]); first | done | rfl | (simp only [List.length_drop, List.length_take]; rfl)) ?_; (with_reducible refine (rivuletref23_Has.calls a0_0 5 t219 _ A49.out).mono ?_); rintro e w52 ⟨rfl, hb⟩; refine ⟨_, rfl, ?_⟩; have n0_ := Aside0.mk (blk_below (g := gb206) (o := .cells #[.int .i64 a0_0, .int .i64 a0_1, .int .i64 a0_2, .int .i64 a0_3, .string a0_4, .string a0_5, .bool a0_6, .int .i64 a0_7] 23 (0, 0)) (by (with_reducible repeat (first | refine blk_drewN ?_ _ | refine blk_drew ?_ | refine blk_alloc ?_ _)); exact BK206.out) hb); have n1_ := Aside0.mk (below_step (by repeat (first | (with_reducible first | exact HB.out | apply below_alloc | apply pw_below_drewN | apply below_drew1 | refine below_set ?_ GE206.out) | exact HB.out)) hb); clear BK206; clear HB; have BK206 := n0_; have HB := n1_; clear n0_ n1_; (try clear hb); (try clear hb2); (try clear hk); (try clear hi)))
             (try simp only [Act.put, List.setIfInBounds_toArray, List.set_cons_zero, List.set_cons_succ])
             go_cut [3] (fun v3 wc => ∃ (kq : Nat) (x3_49 : ByteArray), v3 = .string x3_49 ∧ Aside0 (rivuletref23_Put.j5 kq x3_49 a0_0 a0_1 a0_2 a0_3 a0_4 a0_5 a0_6 a0_7 = some r) ∧ Aside0 (kq ≤ kj45) ∧ Aside0 (wc.heap[gb206]? = some (.cells #[.int .i64 a0_0, .int .i64 a0_1, .int .i64 a0_2, .int .i64 a0_3, .string a0_4, .string a0_5, .bool a0_6, .int .i64 a0_7] 23 (0, 0))) ∧ Aside0 (Below w.heap.size w wc))
             case first =>
              have H := HC50.out
              clear HC50
              by_cases c53 : t219 = true
              ·subst c53
               have H1 : ((rivuletref01_Text.f kj45 a0_4).bind fun t220 => (if x3_45.size + t220.size ≤ 9223372036854775807 then (rivuletref23_Put.j5 kj45 (x3_45 ++ t220) a0_0 a0_1 a0_2 a0_3 a0_4 a0_5 a0_6 a0_7) else (none))) = some r := by rw [if_pos rfl] at H; exact H
               clear H
               have H := H1
               clear H1
               replace H := Option.bind_eq_some_iff.mp H
               obtain ⟨t220, A540, H⟩ := H
               replace H : (if x3_45.size + t220.size ≤ 9223372036854775807 then (rivuletref23_Put.j5 kj45 (x3_45 ++ t220) a0_0 a0_1 a0_2 a0_3 a0_4 a0_5 a0_6 a0_7) else (none)) = some r := H
               have A54 := Aside0.mk A540
               clear A540
               by_cases c55 : x3_45.size + t220.size ≤ 9223372036854775807
               ·rw [if_pos c55] at H
                have c55b0 := eq_true c55
                have c55b1 : decide (x3_45.size + t220.size ≤ 9223372036854775807) = true := decide_eq_true c55
                try have c55b2 : (9223372036854775807 < x3_45.size + t220.size) = False := eq_false (Nat.not_lt.2 c55)
                have H' := Aside0.mk H
                clear H
                have hcz56_0 : w52.cell? ⟨gb206, 0, none⟩ = some (.int .i64 a0_0) := (blk_cell BK206.out 0).trans rfl
                have hcz56_1 : w52.cell? ⟨gb206, 1, none⟩ = some (.int .i64 a0_1) := (blk_cell BK206.out 1).trans rfl
                have hcz56_2 : w52.cell? ⟨gb206, 2, none⟩ = some (.int .i64 a0_2) := (blk_cell BK206.out 2).trans rfl
                have hcz56_3 : w52.cell? ⟨gb206, 3, none⟩ = some (.int .i64 a0_3) := (blk_cell BK206.out 3).trans rfl
                have hcz56_4 : w52.cell? ⟨gb206, 4, none⟩ = some (.string a0_4) := (blk_cell BK206.out 4).trans rfl
                have hcz56_5 : w52.cell? ⟨gb206, 5, none⟩ = some (.string a0_5) := (blk_cell BK206.out 5).trans rfl
                have hcz56_6 : w52.cell? ⟨gb206, 6, none⟩ = some (.bool a0_6) := (blk_cell BK206.out 6).trans rfl
                have hcz56_7 : w52.cell? ⟨gb206, 7, none⟩ = some (.int .i64 a0_7) := (blk_cell BK206.out 7).trans rfl
                have hfz56_0 := blk_frozen BK206.out 0
                have hfz56_1 := blk_frozen BK206.out 1
                have hfz56_2 := blk_frozen BK206.out 2
                have hfz56_3 := blk_frozen BK206.out 3
                have hfz56_4 := blk_frozen BK206.out 4
                have hfz56_5 := blk_frozen BK206.out 5
                have hfz56_6 := blk_frozen BK206.out 6
                have hfz56_7 := blk_frozen BK206.out 7
                go_wp2_with (first | ((with_reducible refine gate_callee (f := 47) rfl ?_); refine goesL_ (some 57) rfl rfl Tryd.func47 (by kernel_rfl) rfl #[.string a0_4] rfl (by (try simp only [List.map_toArray, List.map_cons, List.map_nil]); first | done | rfl | (simp only [List.length_drop, List.length_take]; rfl)) ?_; (with_reducible refine (rivuletref01_Text.calls kj45 a0_4 t220 _ A54.out).mono ?_); rintro e w57 ⟨rfl, hb⟩; refine ⟨_, rfl, ?_⟩; have n0_ := Aside0.mk (blk_below (g := gb206) (o := .cells #[.int .i64 a0_0, .int .i64 a0_1, .int .i64 a0_2, .int .i64 a0_3, .string a0_4, .string a0_5, .bool a0_6, .int .i64 a0_7] 23 (0, 0)) (by (with_reducible repeat (first | refine blk_drewN ?_ _ | refine blk_drew ?_ | refine blk_alloc ?_ _)); exact BK206.out) hb); have n1_ := Aside0.mk (below_step (by repeat (first | (with_reducible first | exact HB.out | apply below_alloc | apply pw_below_drewN | apply below_drew1 | refine below_set ?_ GE206.out) | exact HB.out)) hb); clear BK206; clear HB; have BK206 := n0_; have HB := n1_; clear n0_ n1_; (try clear hb); (try clear hb2); (try clear hk); (try clear hi)))
                go_meet
                case rel => exact ⟨_, (x3_45 ++ t220), (by first | rfl | (simp; done) | (simp [*]; done)), H', ⟨by have := HK1.out; have := HJ26.out; have := HJ34.out; have := HJ37.out; have := HJ45.out; first | omega | exact Nat.le_refl _⟩, ⟨by (with_reducible repeat (first | refine blk_drewN ?_ _ | refine blk_drew ?_ | refine blk_alloc ?_ _)); exact BK206.out⟩, ⟨by repeat (first | (with_reducible first | exact HB.out | apply below_alloc | apply pw_below_drewN | apply below_drew1 | refine below_set ?_ GE206.out) | exact HB.out)⟩⟩
               ·rw [if_neg c55] at H
                exact absurd H (by simp)
              ·replace c53 := Bool.eq_false_iff.mpr c53
               subst c53
               have H1 : (rivuletref23_Put.j5 kj45 x3_45 a0_0 a0_1 a0_2 a0_3 a0_4 a0_5 a0_6 a0_7) = some r := by rw [if_neg (show ¬ (false = true) by decide)] at H; exact H
               clear H
               have H := H1
               clear H1
               have H' := Aside0.mk H
               clear H
               go_wp2
               go_meet
               case rel => exact ⟨_, (x3_45), (by first | rfl | (simp; done) | (simp [*]; done)), H', ⟨by have := HK1.out; have := HJ26.out; have := HJ34.out; have := HJ37.out; have := HJ45.out; first | omega | exact Nat.le_refl _⟩, ⟨by (with_reducible repeat (first | refine blk_drewN ?_ _ | refine blk_drew ?_ | refine blk_alloc ?_ _)); exact BK206.out⟩, ⟨by repeat (first | (with_reducible first | exact HB.out | apply below_alloc | apply pw_below_drewN | apply below_drew1 | refine below_set ?_ GE206.out) | exact HB.out)⟩⟩
             case rest =>
              clear HC50
              try clear c1
              try clear hcv1
              try clear c2
              try clear p2
              try clear q2
              try clear hx2
              try clear c3
              try clear c4
              try clear c5
              try clear p6
              try clear hcv11
              try clear c12
              try clear c14
              try clear c14b0
              try clear c16
              try clear c17
              try clear c17b0
              try clear c18
              try clear c18b0
              try clear c20
              try clear c20b0
              try clear c20b1
              try clear c20b2
              try clear p21
              try clear q21
              try clear hx21
              try clear c29
              try clear c36
              try clear c37
              try clear c37b0
              try clear c37b1
              try clear c37b2
              try clear c40
              try clear c41
              try clear c47
              try clear c48
              try clear c48b0
              try clear c48b1
              try clear c48b2
              try clear c53
              try clear c55
              try clear c55b0
              try clear c55b1
              try clear c55b2
              try clear hcz12_0
              try clear hcz12_1
              try clear hcz12_2
              try clear hcz12_3
              try clear hcz12_4
              try clear hcz12_5
              try clear hcz12_6
              try clear hcz12_7
              try clear hcz21_0
              try clear hcz21_1
              try clear hcz21_2
              try clear hcz21_3
              try clear hcz21_4
              try clear hcz21_5
              try clear hcz21_6
              try clear hcz21_7
              try clear hcz25_0
              try clear hcz25_1
              try clear hcz25_2
              try clear hcz25_3
              try clear hcz25_4
              try clear hcz25_5
              try clear hcz25_6
              try clear hcz25_7
              try clear hcz30_0
              try clear hcz30_1
              try clear hcz30_2
              try clear hcz30_3
              try clear hcz30_4
              try clear hcz30_5
              try clear hcz30_6
              try clear hcz30_7
              try clear hcz32_0
              try clear hcz32_1
              try clear hcz32_2
              try clear hcz32_3
              try clear hcz32_4
              try clear hcz32_5
              try clear hcz32_6
              try clear hcz32_7
              try clear hcz33_0
              try clear hcz33_1
              try clear hcz33_2
              try clear hcz33_3
              try clear hcz33_4
              try clear hcz33_5
              try clear hcz33_6
              try clear hcz33_7
              try clear hcz41_0
              try clear hcz41_1
              try clear hcz41_2
              try clear hcz41_3
              try clear hcz41_4
              try clear hcz41_5
              try clear hcz41_6
              try clear hcz41_7
              try clear hcz43_0
              try clear hcz43_1
              try clear hcz43_2
              try clear hcz43_3
              try clear hcz43_4
              try clear hcz43_5
              try clear hcz43_6
              try clear hcz43_7
              try clear hcz44_0
              try clear hcz44_1
              try clear hcz44_2
              try clear hcz44_3
              try clear hcz44_4
              try clear hcz44_5
              try clear hcz44_6
              try clear hcz44_7
              try clear hcz51_0
              try clear hcz51_1
              try clear hcz51_2
              try clear hcz51_3
              try clear hcz51_4
              try clear hcz51_5
              try clear hcz51_6
              try clear hcz51_7
              try clear hcz56_0
              try clear hcz56_1
              try clear hcz56_2
              try clear hcz56_3
              try clear hcz56_4
              try clear hcz56_5
              try clear hcz56_6
              try clear hcz56_7
              try clear hcz6_0
              try clear hcz6_1
              try clear hcz6_2
              try clear hcz6_3
              try clear hcz6_4
              try clear hcz6_5
              try clear hcz6_6
              try clear hcz6_7
              try clear hcz8_0
              try clear hcz8_1
              try clear hcz8_2
              try clear hcz8_3
              try clear hcz8_4
              try clear hcz8_5
              try clear hcz8_6
              try clear hcz8_7
              try clear hfz12_0
              try clear hfz12_1
              try clear hfz12_2
              try clear hfz12_3
              try clear hfz12_4
              try clear hfz12_5
              try clear hfz12_6
              try clear hfz12_7
              try clear hfz21_0
              try clear hfz21_1
              try clear hfz21_2
              try clear hfz21_3
              try clear hfz21_4
              try clear hfz21_5
              try clear hfz21_6
              try clear hfz21_7
              try clear hfz25_0
              try clear hfz25_1
              try clear hfz25_2
              try clear hfz25_3
              try clear hfz25_4
              try clear hfz25_5
              try clear hfz25_6
              try clear hfz25_7
              try clear hfz30_0
              try clear hfz30_1
              try clear hfz30_2
              try clear hfz30_3
              try clear hfz30_4
              try clear hfz30_5
              try clear hfz30_6
              try clear hfz30_7
              try clear hfz32_0
              try clear hfz32_1
              try clear hfz32_2
              try clear hfz32_3
              try clear hfz32_4
              try clear hfz32_5
              try clear hfz32_6
              try clear hfz32_7
              try clear hfz33_0
              try clear hfz33_1
              try clear hfz33_2
              try clear hfz33_3
              try clear hfz33_4
              try clear hfz33_5
              try clear hfz33_6
              try clear hfz33_7
              try clear hfz41_0
              try clear hfz41_1
              try clear hfz41_2
              try clear hfz41_3
              try clear hfz41_4
              try clear hfz41_5
              try clear hfz41_6
              try clear hfz41_7
              try clear hfz43_0
              try clear hfz43_1
              try clear hfz43_2
              try clear hfz43_3
              try clear hfz43_4
              try clear hfz43_5
              try clear hfz43_6
              try clear hfz43_7
              try clear hfz44_0
              try clear hfz44_1
              try clear hfz44_2
              try clear hfz44_3
              try clear hfz44_4
              try clear hfz44_5
              try clear hfz44_6
              try clear hfz44_7
              try clear hfz51_0
              try clear hfz51_1
              try clear hfz51_2
              try clear hfz51_3
              try clear hfz51_4
              try clear hfz51_5
              try clear hfz51_6
              try clear hfz51_7
              try clear hfz56_0
              try clear hfz56_1
              try clear hfz56_2
              try clear hfz56_3
              try clear hfz56_4
              try clear hfz56_5
              try clear hfz56_6
              try clear hfz56_7
              try clear hfz6_0
              try clear hfz6_1
              try clear hfz6_2
              try clear hfz6_3
              try clear hfz6_4
              try clear hfz6_5
              try clear hfz6_6
              try clear hfz6_7
              try clear hfz8_0
              try clear hfz8_1
              try clear hfz8_2
              try clear hfz8_3
              try clear hfz8_4
              try clear hfz8_5
              try clear hfz8_6
              try clear hfz8_7
              try clear hx215_0
              try clear p2
              try clear p21
              try clear p215
              try clear p6
              try clear q2
              try clear q21
              try clear q215
              obtain ⟨kq, x3_49, rfl, HA, HJ49, BK206, HB⟩ := hcut
              cases kq with
              | zero => exact absurd HA.out (by simp [rivuletref23_Put.j5])
              | succ kj49 =>
               have H := HA.out
               clear HA
               simp only [rivuletref23_Put.j5] at H
               replace H := Option.bind_eq_some_iff.mp H
               obtain ⟨t221, A580, H⟩ := H
               replace H : (if t221 = true then ((rivuletref01_Text.f kj49 a0_5).bind fun t222 => (if x3_49.size + t222.size ≤ 9223372036854775807 then (some (x3_49 ++ t222)) else (none))) else (some x3_49)) = some r := H
               have A58 := Aside0.mk A580
               clear A580
               by_cases c59 : t221 = true
               ·subst c59
                have H1 : ((rivuletref01_Text.f kj49 a0_5).bind fun t222 => (if x3_49.size + t222.size ≤ 9223372036854775807 then (some (x3_49 ++ t222)) else (none))) = some r := by rw [if_pos rfl] at H; exact H
                clear H
                have H := H1
                clear H1
                replace H := Option.bind_eq_some_iff.mp H
                obtain ⟨t222, A600, H⟩ := H
                replace H : (if x3_49.size + t222.size ≤ 9223372036854775807 then (some (x3_49 ++ t222)) else (none)) = some r := H
                have A60 := Aside0.mk A600
                clear A600
                by_cases c61 : x3_49.size + t222.size ≤ 9223372036854775807
                ·rw [if_pos c61] at H
                 have c61b0 := eq_true c61
                 have c61b1 : decide (x3_49.size + t222.size ≤ 9223372036854775807) = true := decide_eq_true c61
                 try have c61b2 : (9223372036854775807 < x3_49.size + t222.size) = False := eq_false (Nat.not_lt.2 c61)
                 obtain rfl := Option.some.inj H
                 have hcz62_0 : wc.cell? ⟨gb206, 0, none⟩ = some (.int .i64 a0_0) := (blk_cell BK206.out 0).trans rfl
                 have hcz62_1 : wc.cell? ⟨gb206, 1, none⟩ = some (.int .i64 a0_1) := (blk_cell BK206.out 1).trans rfl
                 have hcz62_2 : wc.cell? ⟨gb206, 2, none⟩ = some (.int .i64 a0_2) := (blk_cell BK206.out 2).trans rfl
                 have hcz62_3 : wc.cell? ⟨gb206, 3, none⟩ = some (.int .i64 a0_3) := (blk_cell BK206.out 3).trans rfl
                 have hcz62_4 : wc.cell? ⟨gb206, 4, none⟩ = some (.string a0_4) := (blk_cell BK206.out 4).trans rfl
                 have hcz62_5 : wc.cell? ⟨gb206, 5, none⟩ = some (.string a0_5) := (blk_cell BK206.out 5).trans rfl
                 have hcz62_6 : wc.cell? ⟨gb206, 6, none⟩ = some (.bool a0_6) := (blk_cell BK206.out 6).trans rfl
                 have hcz62_7 : wc.cell? ⟨gb206, 7, none⟩ = some (.int .i64 a0_7) := (blk_cell BK206.out 7).trans rfl
                 have hfz62_0 := blk_frozen BK206.out 0
                 have hfz62_1 := blk_frozen BK206.out 1
                 have hfz62_2 := blk_frozen BK206.out 2
                 have hfz62_3 := blk_frozen BK206.out 3
                 have hfz62_4 := blk_frozen BK206.out 4
                 have hfz62_5 := blk_frozen BK206.out 5
                 have hfz62_6 := blk_frozen BK206.out 6
                 have hfz62_7 := blk_frozen BK206.out 7
                 go_wp2_with (first | ((with_reducible refine gate_callee (f := 41) rfl ?_); refine goesL_ (some 61) rfl rfl Tryd.func41 (by kernel_rfl) rfl #[.int .i64 a0_0, .int .i64 6] rfl (by (try simp only [List.map_toArray, List.map_cons, List.map_nil]); first | done | rfl | (simp only [List.length_drop, List.length_take]; rfl)) ?_; (with_reducible refine (rivuletref23_Has.calls a0_0 6 true _ A58.out).mono ?_); rintro e w63 ⟨rfl, hb⟩; refine ⟨_, rfl, ?_⟩; have n0_ := Aside0.mk (blk_below (g := gb206) (o := .cells #[.int .i64 a0_0, .int .i64 a0_1, .int .i64 a0_2, .int .i64 a0_3, .string a0_4, .string a0_5, .bool a0_6, .int .i64 a0_7] 23 (0, 0)) (by (with_reducible repeat (first | refine blk_drewN ?_ _ | refine blk_drew ?_ | refine blk_alloc ?_ _)); exact BK206.out) hb); have n1_ := Aside0.mk (below_step (by repeat (first | (with_reducible first | exact HB.out | apply below_alloc | apply pw_below_drewN | apply below_drew1 | refine below_set ?_ GE206.out) | exact HB.out)) hb); clear BK206; clear HB; have BK206 := n0_; have HB := n1_; clear n0_ n1_; (try clear hb); (try clear hb2); (try clear hk); (try clear hi); have hcz64_0 : w63.cell? ⟨gb206, 0, none⟩ = some (.int .i64 a0_0) := (blk_cell BK206.out 0).trans rfl; have hcz64_1 : w63.cell? ⟨gb206, 1, none⟩ = some (.int .i64 a0_1) := (blk_cell BK206.out 1).trans rfl; have hcz64_2 : w63.cell? ⟨gb206, 2, none⟩ = some (.int .i64 a0_2) := (blk_cell BK206.out 2).trans rfl; have hcz64_3 : w63.cell? ⟨gb206, 3, none⟩ = some (.int .i64 a0_3) := (blk_cell BK206.out 3).trans rfl; have hcz64_4 : w63.cell? ⟨gb206, 4, none⟩ = some (.string a0_4) := (blk_cell BK206.out 4).trans rfl; have hcz64_5 : w63.cell? ⟨gb206, 5, none⟩ = some (.string a0_5) := (blk_cell BK206.out 5).trans rfl; have hcz64_6 : w63.cell? ⟨gb206, 6, none⟩ = some (.bool a0_6) := (blk_cell BK206.out 6).trans rfl; have hcz64_7 : w63.cell? ⟨gb206, 7, none⟩ = some (.int .i64 a0_7) := (blk_cell BK206.out 7).trans rfl; have hfz64_0 := blk_frozen BK206.out 0; have hfz64_1 := blk_frozen BK206.out 1; have hfz64_2 := blk_frozen BK206.out 2; have hfz64_3 := blk_frozen BK206.out 3; have hfz64_4 := blk_frozen BK206.out 4; have hfz64_5 := blk_frozen BK206.out 5; have hfz64_6 := blk_frozen BK206.out 6; have hfz64_7 := blk_frozen BK206.out 7) | ((with_reducible refine gate_callee (f := 47) rfl ?_); refine goesL_ (some 65) rfl rfl Tryd.func47 (by kernel_rfl) rfl #[.string a0_5] rfl (by (try simp only [List.map_toArray, List.map_cons, List.map_nil]); first | done | rfl | (simp only [List.length_drop, List.length_take]; rfl)) ?_; (with_reducible refine (rivuletref01_Text.calls kj49 a0_5 t222 _ A60.out).mono ?_); rintro e w65 ⟨rfl, hb⟩; refine ⟨_, rfl, ?_⟩; have n0_ := Aside0.mk (blk_below (g := gb206) (o := .cells #[.int .i64 a0_0, .int .i64 a0_1, .int .i64 a0_2, .int .i64 a0_3, .string a0_4, .string a0_5, .bool a0_6, .int .i64 a0_7] 23 (0, 0)) (by (with_reducible repeat (first | refine blk_drewN ?_ _ | refine blk_drew ?_ | refine blk_alloc ?_ _)); exact BK206.out) hb); have n1_ := Aside0.mk (below_step (by repeat (first | (with_reducible first | exact HB.out | apply below_alloc | apply pw_below_drewN | apply below_drew1 | refine below_set ?_ GE206.out) | exact HB.out)) hb); clear BK206; clear HB; have BK206 := n0_; have HB := n1_; clear n0_ n1_; (try clear hb); (try clear hb2); (try clear hk); (try clear hi)))
                 go_ret
                 exact ⟨by first | rfl | (simp [errW_none, errW_some] <;> rfl) | (simp [*, errW_none, errW_some] <;> rfl), by repeat (first | (with_reducible first | exact HB.out | apply below_alloc | apply pw_below_drewN | apply below_drew1 | refine below_set ?_ GE206.out) | exact HB.out)⟩
                ·rw [if_neg c61] at H
                 exact absurd H (by simp)
               ·replace c59 := Bool.eq_false_iff.mpr c59
                subst c59
                have H1 : (some x3_49) = some r := by rw [if_neg (show ¬ (false = true) by decide)] at H; exact H
                clear H
                have H := H1
                clear H1
                obtain rfl := Option.some.inj H
                have hcz66_0 : wc.cell? ⟨gb206, 0, none⟩ = some (.int .i64 a0_0) := (blk_cell BK206.out 0).trans rfl
                have hcz66_1 : wc.cell? ⟨gb206, 1, none⟩ = some (.int .i64 a0_1) := (blk_cell BK206.out 1).trans rfl
                have hcz66_2 : wc.cell? ⟨gb206, 2, none⟩ = some (.int .i64 a0_2) := (blk_cell BK206.out 2).trans rfl
                have hcz66_3 : wc.cell? ⟨gb206, 3, none⟩ = some (.int .i64 a0_3) := (blk_cell BK206.out 3).trans rfl
                have hcz66_4 : wc.cell? ⟨gb206, 4, none⟩ = some (.string a0_4) := (blk_cell BK206.out 4).trans rfl
                have hcz66_5 : wc.cell? ⟨gb206, 5, none⟩ = some (.string a0_5) := (blk_cell BK206.out 5).trans rfl
                have hcz66_6 : wc.cell? ⟨gb206, 6, none⟩ = some (.bool a0_6) := (blk_cell BK206.out 6).trans rfl
                have hcz66_7 : wc.cell? ⟨gb206, 7, none⟩ = some (.int .i64 a0_7) := (blk_cell BK206.out 7).trans rfl
                have hfz66_0 := blk_frozen BK206.out 0
                have hfz66_1 := blk_frozen BK206.out 1
                have hfz66_2 := blk_frozen BK206.out 2
                have hfz66_3 := blk_frozen BK206.out 3
                have hfz66_4 := blk_frozen BK206.out 4
                have hfz66_5 := blk_frozen BK206.out 5
                have hfz66_6 := blk_frozen BK206.out 6
                have hfz66_7 := blk_frozen BK206.out 7
                go_wp2_with (first | ((with_reducible refine gate_callee (f := 41) rfl ?_); refine goesL_ (some 61) rfl rfl Tryd.func41 (by kernel_rfl) rfl #[.int .i64 a0_0, .int .i64 6] rfl (by (try simp only [List.map_toArray, List.map_cons, List.map_nil]); first | done | rfl | (simp only [List.length_drop, List.length_take]; rfl)) ?_; (with_reducible refine (rivuletref23_Has.calls a0_0 6 false _ A58.out).mono ?_); rintro e w67 ⟨rfl, hb⟩; refine ⟨_, rfl, ?_⟩; have n0_ := Aside0.mk (blk_below (g := gb206) (o := .cells #[.int .i64 a0_0, .int .i64 a0_1, .int .i64 a0_2, .int .i64 a0_3, .string a0_4, .string a0_5, .bool a0_6, .int .i64 a0_7] 23 (0, 0)) (by (with_reducible repeat (first | refine blk_drewN ?_ _ | refine blk_drew ?_ | refine blk_alloc ?_ _)); exact BK206.out) hb); have n1_ := Aside0.mk (below_step (by repeat (first | (with_reducible first | exact HB.out | apply below_alloc | apply pw_below_drewN | apply below_drew1 | refine below_set ?_ GE206.out) | exact HB.out)) hb); clear BK206; clear HB; have BK206 := n0_; have HB := n1_; clear n0_ n1_; (try clear hb); (try clear hb2); (try clear hk); (try clear hi)))
                go_ret
                exact ⟨by first | rfl | (simp [errW_none, errW_some] <;> rfl) | (simp [*, errW_none, errW_some] <;> rfl), by repeat (first | (with_reducible first | exact HB.out | apply below_alloc | apply pw_below_drewN | apply below_drew1 | refine below_set ?_ GE206.out) | exact HB.out)⟩
 ·replace c3 := Bool.eq_false_iff.mpr c3
  subst c3
  have H1 : (some ⟨#[]⟩) = some r := by rw [if_neg (show ¬ (false = true) by decide)] at H; exact H
  clear H
  have H := H1
  clear H1
  obtain rfl := Option.some.inj H
  go_enter Tryd.func16, Tryd.ntmps16
  go_wp2_with (first | ((with_reducible refine gate_dst (N := 1) rfl ?_); refine box_event ?hg (N := 1) ?hd (cs := #[.int .i64 a0_0, .int .i64 a0_1, .int .i64 a0_2, .int .i64 a0_3, .string a0_4, .string a0_5, .bool a0_6, .int .i64 a0_7]) (t := 23) ?hr ?_; (case hd => rfl); (case hg => rfl); (case hr => first | (go_simp; done) | (go_simp; rfl)); intro gb206 hg w68 hbox hb; have n0_ := Aside0.mk (below_step (by repeat (first | (with_reducible first | exact HB.out | apply below_alloc | apply pw_below_drewN | apply below_drew1) | exact HB.out)) hb); have n1_ := Aside0.mk (hbox); have n2_ := Aside0.mk ((by rw [hg]; exact (below_size (by repeat (first | (with_reducible first | exact HB.out | apply below_alloc | apply pw_below_drewN | apply below_drew1) | exact HB.out))) : w.heap.size ≤ gb206)); have n3_ := Aside0.mk ((by rw [hg]; exact (below_size (by repeat (first | (with_reducible first | exact HB.out | apply below_alloc | apply pw_below_drewN | apply below_drew1) | exact HB.out))) : w.heap.size ≤ gb206)); clear HB; have HB := n0_; have BK206 := n1_; have GW206 := n2_; have GE206 := n3_; clear n0_ n1_ n2_ n3_; clear hb hbox hg; have hcz69_0 : w68.cell? ⟨gb206, 0, none⟩ = some (.int .i64 a0_0) := (blk_cell BK206.out 0).trans rfl; have hcz69_1 : w68.cell? ⟨gb206, 1, none⟩ = some (.int .i64 a0_1) := (blk_cell BK206.out 1).trans rfl; have hcz69_2 : w68.cell? ⟨gb206, 2, none⟩ = some (.int .i64 a0_2) := (blk_cell BK206.out 2).trans rfl; have hcz69_3 : w68.cell? ⟨gb206, 3, none⟩ = some (.int .i64 a0_3) := (blk_cell BK206.out 3).trans rfl; have hcz69_4 : w68.cell? ⟨gb206, 4, none⟩ = some (.string a0_4) := (blk_cell BK206.out 4).trans rfl; have hcz69_5 : w68.cell? ⟨gb206, 5, none⟩ = some (.string a0_5) := (blk_cell BK206.out 5).trans rfl; have hcz69_6 : w68.cell? ⟨gb206, 6, none⟩ = some (.bool a0_6) := (blk_cell BK206.out 6).trans rfl; have hcz69_7 : w68.cell? ⟨gb206, 7, none⟩ = some (.int .i64 a0_7) := (blk_cell BK206.out 7).trans rfl; have hfz69_0 := blk_frozen BK206.out 0; have hfz69_1 := blk_frozen BK206.out 1; have hfz69_2 := blk_frozen BK206.out 2; have hfz69_3 := blk_frozen BK206.out 3; have hfz69_4 := blk_frozen BK206.out 4; have hfz69_5 := blk_frozen BK206.out 5; have hfz69_6 := blk_frozen BK206.out 6; have hfz69_7 := blk_frozen BK206.out 7) | ((with_reducible refine gate_callee (f := 12) rfl ?_); refine goesL_ (some 7) rfl rfl Tryd.func12 (by kernel_rfl) rfl #[.agg #[.int .i64 a0_0, .int .i64 a0_1, .int .i64 a0_2, .int .i64 a0_3, .string a0_4, .string a0_5, .bool a0_6, .int .i64 a0_7]] rfl (by (try simp only [List.map_toArray, List.map_cons, List.map_nil]); first | done | rfl | (simp only [List.length_drop, List.length_take]; rfl)) ?_; (with_reducible refine (rivuletref23_Right.calls k a0_0 a0_1 a0_2 a0_3 a0_4 a0_5 a0_6 a0_7 false _ A2.out).mono ?_); rintro e w70 ⟨rfl, hb⟩; refine ⟨_, rfl, ?_⟩; have n0_ := Aside0.mk (blk_below (g := gb206) (o := .cells #[.int .i64 a0_0, .int .i64 a0_1, .int .i64 a0_2, .int .i64 a0_3, .string a0_4, .string a0_5, .bool a0_6, .int .i64 a0_7] 23 (0, 0)) (by (with_reducible repeat (first | refine blk_drewN ?_ _ | refine blk_drew ?_ | refine blk_alloc ?_ _)); exact BK206.out) hb); have n1_ := Aside0.mk (below_step (by repeat (first | (with_reducible first | exact HB.out | apply below_alloc | apply pw_below_drewN | apply below_drew1 | refine below_set ?_ GE206.out) | exact HB.out)) hb); clear BK206; clear HB; have BK206 := n0_; have HB := n1_; clear n0_ n1_; (try clear hb); (try clear hb2); (try clear hk); (try clear hi)))
  go_ret
  exact ⟨by first | rfl | (simp [errW_none, errW_some] <;> rfl) | (simp [*, errW_none, errW_some] <;> rfl), by repeat (first | (with_reducible first | exact HB.out | apply below_alloc | apply pw_below_drewN | apply below_drew1 | refine below_set ?_ GE206.out) | exact HB.out)⟩
end Go.Proofs.YtjjimkmbbifbjaaDoor.Pv
end
