import Derived.Test.YtjjimkmbbifbjaaDoorKPuts37
namespace Go.Proofs.YtjjimkmbbifbjaaDoor.Pr
open Go.RowKit Go.Proofs.YtjjimkmbbifbjaaDoorW.PrintWords Go.Proofs.YtjjimkmbbifbjaaDoorW.PrintLast Go.Proofs.YtjjimkmbbifbjaaDoorW.PrintMore
attribute [local go_sem] max2_int min2_int max_two min_two max_three min_three max_four min_four
set_option linter.unusedVariables false
set_option linter.unusedSimpArgs false
mutual
def rivuletref23_Show.l0 : Nat → List (S23) → ByteArray → Int → Option (ByteArray)
 | 0, _, _, _ => none
 | k + 1, x0, x3, x4 => if x4 < (x0.length : Int) then (if 0 ≤ x4 then ((rivuletref23_Right.f ((rd_T23 x0 x4).f0) ((rd_T23 x0 x4).f1) ((rd_T23 x0 x4).f2) ((rd_T23 x0 x4).f3) ((rd_T23 x0 x4).f4) ((rd_T23 x0 x4).f5) ((rd_T23 x0 x4).f6) ((rd_T23 x0 x4).f7)).bind fun t156 => (if t156 = true then ((rivuletref23_Name.f ((rd_T23 x0 x4).f0)).bind fun t157 => (if x3.size + t157.size ≤ 9223372036854775807 then ((rivuletref23_numbers.f ((rd_T23 x0 x4).f0) ((rd_T23 x0 x4).f1) ((rd_T23 x0 x4).f2) ((rd_T23 x0 x4).f3) ((rd_T23 x0 x4).f4) ((rd_T23 x0 x4).f5) ((rd_T23 x0 x4).f6) ((rd_T23 x0 x4).f7)).bind fun t158 => (rivuletref23_Show.l1 k x0 (x3 ++ t157) x4 t158 0 ((rd_T23 x0 x4).f0) ((rd_T23 x0 x4).f1) ((rd_T23 x0 x4).f2) ((rd_T23 x0 x4).f3) ((rd_T23 x0 x4).f4) ((rd_T23 x0 x4).f5) ((rd_T23 x0 x4).f6) ((rd_T23 x0 x4).f7))) else (none))) else (rivuletref23_Show.l0 k x0 x3 (wrap64 (x4 + 1))))) else (none)) else (some x3)
def rivuletref23_Show.l1 : Nat → List (S23) → ByteArray → Int → List Int → Int → Int → Int → Int → Int → ByteArray → ByteArray → Bool → Int → Option (ByteArray)
 | 0, _, _, _, _, _, _, _, _, _, _, _, _, _ => none
 | k + 1, x0, x3, x4, x6, x7, x156000, x156001, x156002, x156003, x156004, x156005, x156006, x156007 => if x7 < 4 then ((rivuletref23_Has.f x156000 x7).bind fun t161 => (if t161 = true then (if 0 ≤ x7 then (if x7 < (x6.length : Int) then ((rivuletref06_Digits.f (rd x6 x7)).bind fun t163 => (if 1 + t163.size ≤ 9223372036854775807 then (if x3.size + ((⟨#[32]⟩ : ByteArray) ++ t163).size ≤ 9223372036854775807 then (rivuletref23_Show.l1 k x0 (x3 ++ ((⟨#[32]⟩ : ByteArray) ++ t163)) x4 x6 (wrap64 (x7 + 1)) x156000 x156001 x156002 x156003 x156004 x156005 x156006 x156007) else (none)) else (none))) else (none)) else (none)) else (rivuletref23_Show.l1 k x0 x3 x4 x6 (wrap64 (x7 + 1)) x156000 x156001 x156002 x156003 x156004 x156005 x156006 x156007))) else ((rivuletref23_Has.f x156000 4).bind fun t164 => (if t164 = true then (rivuletref23_Show.j2 k x0 x3 x4 x156006 x156000 x156001 x156002 x156003 x156004 x156005 x156006 x156007) else (rivuletref23_Show.j2 k x0 x3 x4 false x156000 x156001 x156002 x156003 x156004 x156005 x156006 x156007)))
def rivuletref23_Show.j2 : Nat → List (S23) → ByteArray → Int → Bool → Int → Int → Int → Int → ByteArray → ByteArray → Bool → Int → Option (ByteArray)
 | 0, _, _, _, _, _, _, _, _, _, _, _, _ => none
 | k + 1, x0, x3, x4, x50, x156000, x156001, x156002, x156003, x156004, x156005, x156006, x156007 => if x50 = true then (if x3.size + 3 ≤ 9223372036854775807 then (rivuletref23_Show.j3 k x0 (x3 ++ (⟨#[32, 111, 110]⟩ : ByteArray)) x4 x156000 x156001 x156002 x156003 x156004 x156005 x156006 x156007) else (none)) else (rivuletref23_Show.j3 k x0 x3 x4 x156000 x156001 x156002 x156003 x156004 x156005 x156006 x156007)
def rivuletref23_Show.j3 : Nat → List (S23) → ByteArray → Int → Int → Int → Int → Int → ByteArray → ByteArray → Bool → Int → Option (ByteArray)
 | 0, _, _, _, _, _, _, _, _, _, _, _ => none
 | k + 1, x0, x3, x4, x156000, x156001, x156002, x156003, x156004, x156005, x156006, x156007 => (rivuletref23_Has.f x156000 4).bind fun t165 => (if t165 = true then (rivuletref23_Show.j4 k x0 x3 x4 (!x156006) x156000 x156001 x156002 x156003 x156004 x156005 x156006 x156007) else (rivuletref23_Show.j4 k x0 x3 x4 false x156000 x156001 x156002 x156003 x156004 x156005 x156006 x156007))
def rivuletref23_Show.j4 : Nat → List (S23) → ByteArray → Int → Bool → Int → Int → Int → Int → ByteArray → ByteArray → Bool → Int → Option (ByteArray)
 | 0, _, _, _, _, _, _, _, _, _, _, _, _ => none
 | k + 1, x0, x3, x4, x60, x156000, x156001, x156002, x156003, x156004, x156005, x156006, x156007 => if x60 = true then (if x3.size + 4 ≤ 9223372036854775807 then (rivuletref23_Show.j5 k x0 (x3 ++ (⟨#[32, 111, 102, 102]⟩ : ByteArray)) x4 x156000 x156001 x156002 x156003 x156004 x156005 x156006 x156007) else (none)) else (rivuletref23_Show.j5 k x0 x3 x4 x156000 x156001 x156002 x156003 x156004 x156005 x156006 x156007)
def rivuletref23_Show.j5 : Nat → List (S23) → ByteArray → Int → Int → Int → Int → Int → ByteArray → ByteArray → Bool → Int → Option (ByteArray)
 | 0, _, _, _, _, _, _, _, _, _, _, _ => none
 | k + 1, x0, x3, x4, x156000, x156001, x156002, x156003, x156004, x156005, x156006, x156007 => (rivuletref23_Has.f x156000 5).bind fun t166 => (if t166 = true then (if 1 + x156004.size ≤ 9223372036854775807 then (if x3.size + ((⟨#[32]⟩ : ByteArray) ++ x156004).size ≤ 9223372036854775807 then (rivuletref23_Show.j6 k x0 (x3 ++ ((⟨#[32]⟩ : ByteArray) ++ x156004)) x4 x156000 x156001 x156002 x156003 x156004 x156005 x156006 x156007) else (none)) else (none)) else (rivuletref23_Show.j6 k x0 x3 x4 x156000 x156001 x156002 x156003 x156004 x156005 x156006 x156007))
def rivuletref23_Show.j6 : Nat → List (S23) → ByteArray → Int → Int → Int → Int → Int → ByteArray → ByteArray → Bool → Int → Option (ByteArray)
 | 0, _, _, _, _, _, _, _, _, _, _, _ => none
 | k + 1, x0, x3, x4, x156000, x156001, x156002, x156003, x156004, x156005, x156006, x156007 => (rivuletref23_Has.f x156000 6).bind fun t167 => (if t167 = true then ((rivuletref06_Digits.f (x156005.size : Int)).bind fun t168 => (if 1 + t168.size ≤ 9223372036854775807 then (if x3.size + ((⟨#[32]⟩ : ByteArray) ++ t168).size ≤ 9223372036854775807 then (if (x3 ++ ((⟨#[32]⟩ : ByteArray) ++ t168)).size + 1 ≤ 9223372036854775807 then (rivuletref23_Show.l0 k x0 ((x3 ++ ((⟨#[32]⟩ : ByteArray) ++ t168)) ++ (⟨#[10]⟩ : ByteArray)) (wrap64 (x4 + 1))) else (none)) else (none)) else (none))) else (if x3.size + 1 ≤ 9223372036854775807 then (rivuletref23_Show.l0 k x0 (x3 ++ (⟨#[10]⟩ : ByteArray)) (wrap64 (x4 + 1))) else (none)))
end
def rivuletref23_Show.f (k : Nat) (l0 : List (S23)) : Option (ByteArray) := rivuletref23_Show.l0 k l0 ⟨#[]⟩ 0
set_option maxHeartbeats 8000000 in
set_option maxRecDepth 100000 in
theorem rivuletref23_Show.calls (k : Nat) (A0 : Option Addr) (c0 : Nat) (l0 : List (S23)) (r : ByteArray) (w : World) (hr0 : Kd.C k23 w A0 l0.length l0) (hc0 : l0.length ≤ c0) (h : rivuletref23_Show.f k l0 = some r) :
  Calls Tryd.prog 20 #[.slice A0 l0.length c0] w fun e w' => e = .returned (.string r) ∧ Below w.heap.size w w' := by
 have hu23 := Tryd.underlying23
 have HR0 := Aside0.mk hr0
 have HC0 := Aside0.mk hc0
 clear hr0 hc0
 have HB := Aside0.mk (Below.refl w.heap.size w)
 have H : (rivuletref23_Show.l0 k l0 ⟨#[]⟩ 0) = some r := h
 clear h
 have H' := Aside0.mk H
 clear H
 go_enter Tryd.func20, Tryd.ntmps20
 go_wp2
 go_loopg [3, 4] k (fun kq v3 v4 w' => ∃ (x3_1 : ByteArray) (x4_1 : Int), v3 = .string x3_1 ∧ v4 = .int .i64 x4_1 ∧ Aside0 (rivuletref23_Show.l0 kq l0 x3_1 x4_1 = some r) ∧ Aside0 (kq ≤ k) ∧ Aside0 (Below w.heap.size w w'))
 case atStart => exact ⟨((⟨#[]⟩ : ByteArray)), (0), (by first | rfl | (simp; done) | (simp [*]; done)), (by first | rfl | (simp; done) | (simp [*]; done)), H', ⟨Nat.le_refl _⟩, ⟨by repeat (first | (with_reducible first | exact HB.out | apply below_alloc | apply pw_below_drewN | apply below_drew1) | exact HB.out)⟩⟩
 case round =>
  clear H'
  obtain ⟨x3_1, x4_1, rfl, rfl, HA, HK1, HB⟩ := hrel
  cases gk with
  | zero => exact absurd HA.out (by simp [rivuletref23_Show.l0])
  | succ k1 =>
   have H := HA.out
   clear HA
   simp only [rivuletref23_Show.l0] at H
   by_cases c2 : x4_1 < (l0.length : Int)
   ·rw [if_pos c2] at H
    have c2b0 : decide (x4_1 < (l0.length : Int)) = true := decide_eq_true c2
    clear c2
    by_cases c3 : 0 ≤ x4_1
    ·rw [if_pos c3] at H
     have c3b0 : decide (0 ≤ x4_1) = true := decide_eq_true c3
     clear c3
     replace H := Option.bind_eq_some_iff.mp H
     obtain ⟨t156, A40, H⟩ := H
     replace H : (if t156 = true then ((rivuletref23_Name.f ((rd_T23 l0 x4_1).f0)).bind fun t157 => (if x3_1.size + t157.size ≤ 9223372036854775807 then ((rivuletref23_numbers.f ((rd_T23 l0 x4_1).f0) ((rd_T23 l0 x4_1).f1) ((rd_T23 l0 x4_1).f2) ((rd_T23 l0 x4_1).f3) ((rd_T23 l0 x4_1).f4) ((rd_T23 l0 x4_1).f5) ((rd_T23 l0 x4_1).f6) ((rd_T23 l0 x4_1).f7)).bind fun t158 => (rivuletref23_Show.l1 k1 l0 (x3_1 ++ t157) x4_1 t158 0 ((rd_T23 l0 x4_1).f0) ((rd_T23 l0 x4_1).f1) ((rd_T23 l0 x4_1).f2) ((rd_T23 l0 x4_1).f3) ((rd_T23 l0 x4_1).f4) ((rd_T23 l0 x4_1).f5) ((rd_T23 l0 x4_1).f6) ((rd_T23 l0 x4_1).f7))) else (none))) else (rivuletref23_Show.l0 k1 l0 x3_1 (wrap64 (x4_1 + 1)))) = some r := H
     have A4 := Aside0.mk A40
     clear A40
     by_cases c5 : t156 = true
     ·subst c5
      have H1 : ((rivuletref23_Name.f ((rd_T23 l0 x4_1).f0)).bind fun t157 => (if x3_1.size + t157.size ≤ 9223372036854775807 then ((rivuletref23_numbers.f ((rd_T23 l0 x4_1).f0) ((rd_T23 l0 x4_1).f1) ((rd_T23 l0 x4_1).f2) ((rd_T23 l0 x4_1).f3) ((rd_T23 l0 x4_1).f4) ((rd_T23 l0 x4_1).f5) ((rd_T23 l0 x4_1).f6) ((rd_T23 l0 x4_1).f7)).bind fun t158 => (rivuletref23_Show.l1 k1 l0 (x3_1 ++ t157) x4_1 t158 0 ((rd_T23 l0 x4_1).f0) ((rd_T23 l0 x4_1).f1) ((rd_T23 l0 x4_1).f2) ((rd_T23 l0 x4_1).f3) ((rd_T23 l0 x4_1).f4) ((rd_T23 l0 x4_1).f5) ((rd_T23 l0 x4_1).f6) ((rd_T23 l0 x4_1).f7))) else (none))) = some r := by rw [if_pos rfl] at H; exact H
      clear H
      have H := H1
      clear H1
      replace H := Option.bind_eq_some_iff.mp H
      obtain ⟨t157, A60, H⟩ := H
      replace H : (if x3_1.size + t157.size ≤ 9223372036854775807 then ((rivuletref23_numbers.f ((rd_T23 l0 x4_1).f0) ((rd_T23 l0 x4_1).f1) ((rd_T23 l0 x4_1).f2) ((rd_T23 l0 x4_1).f3) ((rd_T23 l0 x4_1).f4) ((rd_T23 l0 x4_1).f5) ((rd_T23 l0 x4_1).f6) ((rd_T23 l0 x4_1).f7)).bind fun t158 => (rivuletref23_Show.l1 k1 l0 (x3_1 ++ t157) x4_1 t158 0 ((rd_T23 l0 x4_1).f0) ((rd_T23 l0 x4_1).f1) ((rd_T23 l0 x4_1).f2) ((rd_T23 l0 x4_1).f3) ((rd_T23 l0 x4_1).f4) ((rd_T23 l0 x4_1).f5) ((rd_T23 l0 x4_1).f6) ((rd_T23 l0 x4_1).f7))) else (none)) = some r := H
      have A6 := Aside0.mk A60
      clear A60
      by_cases c7 : x3_1.size + t157.size ≤ 9223372036854775807
      ·rw [if_pos c7] at H
       have c7b0 := eq_true c7
       have c7b1 : decide (x3_1.size + t157.size ≤ 9223372036854775807) = true := decide_eq_true c7
       try have c7b2 : (9223372036854775807 < x3_1.size + t157.size) = False := eq_false (Nat.not_lt.2 c7)
       replace H := Option.bind_eq_some_iff.mp H
       obtain ⟨t158, A80, H⟩ := H
       replace H : (rivuletref23_Show.l1 k1 l0 (x3_1 ++ t157) x4_1 t158 0 ((rd_T23 l0 x4_1).f0) ((rd_T23 l0 x4_1).f1) ((rd_T23 l0 x4_1).f2) ((rd_T23 l0 x4_1).f3) ((rd_T23 l0 x4_1).f4) ((rd_T23 l0 x4_1).f5) ((rd_T23 l0 x4_1).f6) ((rd_T23 l0 x4_1).f7)) = some r := H
       have A8 := Aside0.mk A80
       clear A80
       have H' := Aside0.mk H
       clear H
       have p154 : 0 ≤ (x4_1 : Int) := of_decide_eq_true (by first | (with_reducible assumption) | assumption)
       have q154 : x4_1 < (l0.length : Int) := of_decide_eq_true (by first | (with_reducible assumption) | assumption)
       obtain ⟨ad154, e154, hx154_0, hx154_1, hx154_2, hx154_3, hx154_4, hx154_5, hx154_6, hx154_7⟩ := at_T23 HR0.out x4_1 p154 q154
       cases e154
       replace hx154_0 := (HB.out.cell (World.block_lt_of_cell? w _ hx154_0)).trans hx154_0
       replace hx154_1 := (HB.out.cell (World.block_lt_of_cell? w _ hx154_1)).trans hx154_1
       replace hx154_2 := (HB.out.cell (World.block_lt_of_cell? w _ hx154_2)).trans hx154_2
       replace hx154_3 := (HB.out.cell (World.block_lt_of_cell? w _ hx154_3)).trans hx154_3
       replace hx154_4 := (HB.out.cell (World.block_lt_of_cell? w _ hx154_4)).trans hx154_4
       replace hx154_5 := (HB.out.cell (World.block_lt_of_cell? w _ hx154_5)).trans hx154_5
       replace hx154_6 := (HB.out.cell (World.block_lt_of_cell? w _ hx154_6)).trans hx154_6
       replace hx154_7 := (HB.out.cell (World.block_lt_of_cell? w _ hx154_7)).trans hx154_7
       replace p154 := eq_true p154
       replace q154 := eq_true q154
       go_wp2_with (first | ((with_reducible refine gate_dst (N := 5) rfl ?_); refine box_event ?hg (N := 5) ?hd (cs := #[.int .i64 0, .int .i64 0, .int .i64 0, .int .i64 0, .string ⟨#[]⟩, .string ⟨#[]⟩, .bool false, .int .i64 0]) (t := 23) ?hr ?_; (case hd => rfl); (case hg => rfl); (case hr => first | (go_simp; done) | (go_simp; rfl)); intro gb155 hg w9 hbox hb; have n0_ := Aside0.mk (below_step (by repeat (first | (with_reducible first | exact HB.out | apply below_alloc | apply pw_below_drewN | apply below_drew1) | exact HB.out)) hb); have n1_ := Aside0.mk (hbox); have n2_ := Aside0.mk ((by rw [hg]; exact (below_size (by repeat (first | (with_reducible first | exact HB.out | apply below_alloc | apply pw_below_drewN | apply below_drew1) | exact HB.out))) : w.heap.size ≤ gb155)); have n3_ := Aside0.mk ((by rw [hg]; exact (below_size (by repeat (first | (with_reducible first | exact HB.out | apply below_alloc | apply pw_below_drewN | apply below_drew1) | exact HB.out))) : w.heap.size ≤ gb155)); clear HB; have HB := n0_; have BK155 := n1_; have GW155 := n2_; have GE155 := n3_; clear n0_ n1_ n2_ n3_; clear hb hbox hg; have hcz10_0 : w9.cell? ⟨gb155, 0, none⟩ = some (.int .i64 0) := (blk_cell BK155.out 0).trans rfl; have hcz10_1 : w9.cell? ⟨gb155, 1, none⟩ = some (.int .i64 0) := (blk_cell BK155.out 1).trans rfl; have hcz10_2 : w9.cell? ⟨gb155, 2, none⟩ = some (.int .i64 0) := (blk_cell BK155.out 2).trans rfl; have hcz10_3 : w9.cell? ⟨gb155, 3, none⟩ = some (.int .i64 0) := (blk_cell BK155.out 3).trans rfl; have hcz10_4 : w9.cell? ⟨gb155, 4, none⟩ = some (.string ⟨#[]⟩) := (blk_cell BK155.out 4).trans rfl; have hcz10_5 : w9.cell? ⟨gb155, 5, none⟩ = some (.string ⟨#[]⟩) := (blk_cell BK155.out 5).trans rfl; have hcz10_6 : w9.cell? ⟨gb155, 6, none⟩ = some (.bool false) := (blk_cell BK155.out 6).trans rfl; have hcz10_7 : w9.cell? ⟨gb155, 7, none⟩ = some (.int .i64 0) := (blk_cell BK155.out 7).trans rfl; have hfz10_0 := blk_frozen BK155.out 0; have hfz10_1 := blk_frozen BK155.out 1; have hfz10_2 := blk_frozen BK155.out 2; have hfz10_3 := blk_frozen BK155.out 3; have hfz10_4 := blk_frozen BK155.out 4; have hfz10_5 := blk_frozen BK155.out 5; have hfz10_6 := blk_frozen BK155.out 6; have hfz10_7 := blk_frozen BK155.out 7) | ((with_reducible refine gate_callee (f := 12) rfl ?_); refine goesL_ (some 19) rfl rfl Tryd.func12 (by kernel_rfl) rfl #[.agg #[.int .i64 ((rd_T23 l0 x4_1).f0), .int .i64 ((rd_T23 l0 x4_1).f1), .int .i64 ((rd_T23 l0 x4_1).f2), .int .i64 ((rd_T23 l0 x4_1).f3), .string ((rd_T23 l0 x4_1).f4), .string ((rd_T23 l0 x4_1).f5), .bool ((rd_T23 l0 x4_1).f6), .int .i64 ((rd_T23 l0 x4_1).f7)]] rfl (by (try simp only [List.map_toArray, List.map_cons, List.map_nil]); first | done | rfl | (simp only [List.length_drop, List.length_take]; rfl)) ?_; (with_reducible refine (rivuletref23_Right.calls ((rd_T23 l0 x4_1).f0) ((rd_T23 l0 x4_1).f1) ((rd_T23 l0 x4_1).f2) ((rd_T23 l0 x4_1).f3) ((rd_T23 l0 x4_1).f4) ((rd_T23 l0 x4_1).f5) ((rd_T23 l0 x4_1).f6) ((rd_T23 l0 x4_1).f7) true _ A4.out).mono ?_); rintro e w11 ⟨rfl, hb⟩; refine ⟨_, rfl, ?_⟩; have n0_ := Aside0.mk (blk_below (g := gb155) (o := .cells #[.int .i64 ((rd_T23 l0 x4_1).f0), .int .i64 ((rd_T23 l0 x4_1).f1), .int .i64 ((rd_T23 l0 x4_1).f2), .int .i64 ((rd_T23 l0 x4_1).f3), .string ((rd_T23 l0 x4_1).f4), .string ((rd_T23 l0 x4_1).f5), .bool ((rd_T23 l0 x4_1).f6), .int .i64 ((rd_T23 l0 x4_1).f7)] 23 (0, 0)) (by (with_reducible repeat (first | refine blk_drewN ?_ _ | refine blk_drew ?_ | refine blk_alloc ?_ _)); refine blk_put (cs := #[.int .i64 ((rd_T23 l0 x4_1).f0), .int .i64 ((rd_T23 l0 x4_1).f1), .int .i64 ((rd_T23 l0 x4_1).f2), .int .i64 ((rd_T23 l0 x4_1).f3), .string ((rd_T23 l0 x4_1).f4), .string ((rd_T23 l0 x4_1).f5), .bool ((rd_T23 l0 x4_1).f6), .int .i64 0]) ?_ 7 _ rfl; (with_reducible repeat (first | refine blk_drewN ?_ _ | refine blk_drew ?_ | refine blk_alloc ?_ _)); refine blk_put (cs := #[.int .i64 ((rd_T23 l0 x4_1).f0), .int .i64 ((rd_T23 l0 x4_1).f1), .int .i64 ((rd_T23 l0 x4_1).f2), .int .i64 ((rd_T23 l0 x4_1).f3), .string ((rd_T23 l0 x4_1).f4), .string ((rd_T23 l0 x4_1).f5), .bool false, .int .i64 0]) ?_ 6 _ rfl; (with_reducible repeat (first | refine blk_drewN ?_ _ | refine blk_drew ?_ | refine blk_alloc ?_ _)); refine blk_put (cs := #[.int .i64 ((rd_T23 l0 x4_1).f0), .int .i64 ((rd_T23 l0 x4_1).f1), .int .i64 ((rd_T23 l0 x4_1).f2), .int .i64 ((rd_T23 l0 x4_1).f3), .string ((rd_T23 l0 x4_1).f4), .string ⟨#[]⟩, .bool false, .int .i64 0]) ?_ 5 _ rfl; (with_reducible repeat (first | refine blk_drewN ?_ _ | refine blk_drew ?_ | refine blk_alloc ?_ _)); refine blk_put (cs := #[.int .i64 ((rd_T23 l0 x4_1).f0), .int .i64 ((rd_T23 l0 x4_1).f1), .int .i64 ((rd_T23 l0 x4_1).f2), .int .i64 ((rd_T23 l0 x4_1).f3), .string ⟨#[]⟩, .string ⟨#[]⟩, .bool false, .int .i64 0]) ?_ 4 _ rfl; (with_reducible repeat (first | refine blk_drewN ?_ _ | refine blk_drew ?_ | refine blk_alloc ?_ _)); refine blk_put (cs := #[.int .i64 ((rd_T23 l0 x4_1).f0), .int .i64 ((rd_T23 l0 x4_1).f1), .int .i64 ((rd_T23 l0 x4_1).f2), .int .i64 0, .string ⟨#[]⟩, .string ⟨#[]⟩, .bool false, .int .i64 0]) ?_ 3 _ rfl; (with_reducible repeat (first | refine blk_drewN ?_ _ | refine blk_drew ?_ | refine blk_alloc ?_ _)); refine blk_put (cs := #[.int .i64 ((rd_T23 l0 x4_1).f0), .int .i64 ((rd_T23 l0 x4_1).f1), .int .i64 0, .int .i64 0, .string ⟨#[]⟩, .string ⟨#[]⟩, .bool false, .int .i64 0]) ?_ 2 _ rfl; (with_reducible repeat (first | refine blk_drewN ?_ _ | refine blk_drew ?_ | refine blk_alloc ?_ _)); refine blk_put (cs := #[.int .i64 ((rd_T23 l0 x4_1).f0), .int .i64 0, .int .i64 0, .int .i64 0, .string ⟨#[]⟩, .string ⟨#[]⟩, .bool false, .int .i64 0]) ?_ 1 _ rfl; (with_reducible repeat (first | refine blk_drewN ?_ _ | refine blk_drew ?_ | refine blk_alloc ?_ _)); refine blk_put (cs := #[.int .i64 0, .int .i64 0, .int .i64 0, .int .i64 0, .string ⟨#[]⟩, .string ⟨#[]⟩, .bool false, .int .i64 0]) ?_ 0 _ rfl; (with_reducible repeat (first | refine blk_drewN ?_ _ | refine blk_drew ?_ | refine blk_alloc ?_ _)); exact BK155.out) hb); have n1_ := Aside0.mk (below_step (by repeat (first | (with_reducible first | exact HB.out | apply below_alloc | apply pw_below_drewN | apply below_drew1 | refine below_set ?_ GE155.out) | exact HB.out)) hb); clear BK155; clear HB; have BK155 := n0_; have HB := n1_; clear n0_ n1_; (try clear hb); (try clear hb2); (try clear hk); (try clear hi); have hcz12_0 : w11.cell? ⟨gb155, 0, none⟩ = some (.int .i64 ((rd_T23 l0 x4_1).f0)) := (blk_cell BK155.out 0).trans rfl; have hcz12_1 : w11.cell? ⟨gb155, 1, none⟩ = some (.int .i64 ((rd_T23 l0 x4_1).f1)) := (blk_cell BK155.out 1).trans rfl; have hcz12_2 : w11.cell? ⟨gb155, 2, none⟩ = some (.int .i64 ((rd_T23 l0 x4_1).f2)) := (blk_cell BK155.out 2).trans rfl; have hcz12_3 : w11.cell? ⟨gb155, 3, none⟩ = some (.int .i64 ((rd_T23 l0 x4_1).f3)) := (blk_cell BK155.out 3).trans rfl; have hcz12_4 : w11.cell? ⟨gb155, 4, none⟩ = some (.string ((rd_T23 l0 x4_1).f4)) := (blk_cell BK155.out 4).trans rfl; have hcz12_5 : w11.cell? ⟨gb155, 5, none⟩ = some (.string ((rd_T23 l0 x4_1).f5)) := (blk_cell BK155.out 5).trans rfl; have hcz12_6 : w11.cell? ⟨gb155, 6, none⟩ = some (.bool ((rd_T23 l0 x4_1).f6)) := (blk_cell BK155.out 6).trans rfl; have hcz12_7 : w11.cell? ⟨gb155, 7, none⟩ = some (.int .i64 ((rd_T23 l0 x4_1).f7)) := (blk_cell BK155.out 7).trans rfl; have hfz12_0 := blk_frozen BK155.out 0; have hfz12_1 := blk_frozen BK155.out 1; have hfz12_2 := blk_frozen BK155.out 2; have hfz12_3 := blk_frozen BK155.out 3; have hfz12_4 := blk_frozen BK155.out 4; have hfz12_5 := blk_frozen BK155.out 5; have hfz12_6 := blk_frozen BK155.out 6; have hfz12_7 := blk_frozen BK155.out 7) | ((with_reducible refine gate_callee (f := 18) rfl ?_); refine goesL_ (some 24) rfl rfl Tryd.func18 (by kernel_rfl) rfl #[.int .i64 ((rd_T23 l0 x4_1).f0)] rfl (by (try simp only [List.map_toArray, List.map_cons, List.map_nil]); first | done | rfl | (simp only [List.length_drop, List.length_take]; rfl)) ?_; (with_reducible refine (rivuletref23_Name.calls ((rd_T23 l0 x4_1).f0) t157 _ A6.out).mono ?_); rintro e w13 ⟨rfl, hb⟩; refine ⟨_, rfl, ?_⟩; have n0_ := Aside0.mk (blk_below (g := gb155) (o := .cells #[.int .i64 ((rd_T23 l0 x4_1).f0), .int .i64 ((rd_T23 l0 x4_1).f1), .int .i64 ((rd_T23 l0 x4_1).f2), .int .i64 ((rd_T23 l0 x4_1).f3), .string ((rd_T23 l0 x4_1).f4), .string ((rd_T23 l0 x4_1).f5), .bool ((rd_T23 l0 x4_1).f6), .int .i64 ((rd_T23 l0 x4_1).f7)] 23 (0, 0)) (by (with_reducible repeat (first | refine blk_drewN ?_ _ | refine blk_drew ?_ | refine blk_alloc ?_ _)); exact BK155.out) hb); have n1_ := Aside0.mk (below_step (by repeat (first | (with_reducible first | exact HB.out | apply below_alloc | apply pw_below_drewN | apply below_drew1 | refine below_set ?_ GE155.out) | exact HB.out)) hb); clear BK155; clear HB; have BK155 := n0_; have HB := n1_; clear n0_ n1_; (try clear hb); (try clear hb2); (try clear hk); (try clear hi); have hcz14_0 : w13.cell? ⟨gb155, 0, none⟩ = some (.int .i64 ((rd_T23 l0 x4_1).f0)) := (blk_cell BK155.out 0).trans rfl; have hcz14_1 : w13.cell? ⟨gb155, 1, none⟩ = some (.int .i64 ((rd_T23 l0 x4_1).f1)) := (blk_cell BK155.out 1).trans rfl; have hcz14_2 : w13.cell? ⟨gb155, 2, none⟩ = some (.int .i64 ((rd_T23 l0 x4_1).f2)) := (blk_cell BK155.out 2).trans rfl; have hcz14_3 : w13.cell? ⟨gb155, 3, none⟩ = some (.int .i64 ((rd_T23 l0 x4_1).f3)) := (blk_cell BK155.out 3).trans rfl; have hcz14_4 : w13.cell? ⟨gb155, 4, none⟩ = some (.string ((rd_T23 l0 x4_1).f4)) := (blk_cell BK155.out 4).trans rfl; have hcz14_5 : w13.cell? ⟨gb155, 5, none⟩ = some (.string ((rd_T23 l0 x4_1).f5)) := (blk_cell BK155.out 5).trans rfl; have hcz14_6 : w13.cell? ⟨gb155, 6, none⟩ = some (.bool ((rd_T23 l0 x4_1).f6)) := (blk_cell BK155.out 6).trans rfl; have hcz14_7 : w13.cell? ⟨gb155, 7, none⟩ = some (.int .i64 ((rd_T23 l0 x4_1).f7)) := (blk_cell BK155.out 7).trans rfl; have hfz14_0 := blk_frozen BK155.out 0; have hfz14_1 := blk_frozen BK155.out 1; have hfz14_2 := blk_frozen BK155.out 2; have hfz14_3 := blk_frozen BK155.out 3; have hfz14_4 := blk_frozen BK155.out 4; have hfz14_5 := blk_frozen BK155.out 5; have hfz14_6 := blk_frozen BK155.out 6; have hfz14_7 := blk_frozen BK155.out 7) | ((with_reducible refine gate_callee (f := 45) rfl ?_); refine goesL_ (some 27) rfl rfl Tryd.func45 (by kernel_rfl) rfl #[.agg #[.int .i64 ((rd_T23 l0 x4_1).f0), .int .i64 ((rd_T23 l0 x4_1).f1), .int .i64 ((rd_T23 l0 x4_1).f2), .int .i64 ((rd_T23 l0 x4_1).f3), .string ((rd_T23 l0 x4_1).f4), .string ((rd_T23 l0 x4_1).f5), .bool ((rd_T23 l0 x4_1).f6), .int .i64 ((rd_T23 l0 x4_1).f7)]] rfl (by (try simp only [List.map_toArray, List.map_cons, List.map_nil]); first | done | rfl | (simp only [List.length_drop, List.length_take]; rfl)) ?_; (with_reducible refine (rivuletref23_numbers.calls ((rd_T23 l0 x4_1).f0) ((rd_T23 l0 x4_1).f1) ((rd_T23 l0 x4_1).f2) ((rd_T23 l0 x4_1).f3) ((rd_T23 l0 x4_1).f4) ((rd_T23 l0 x4_1).f5) ((rd_T23 l0 x4_1).f6) ((rd_T23 l0 x4_1).f7) t158 _ A8.out).mono ?_); rintro e w15 ⟨v159, rfl, ho0, hb⟩; refine ⟨_, rfl, ?_⟩; have n0_ := Aside0.mk (Kd.R_lower ho0 (below_size (by repeat (first | (with_reducible first | exact HB.out | apply below_alloc | apply pw_below_drewN | apply below_drew1 | refine below_set ?_ GE155.out) | exact HB.out)))); have n1_ := Aside0.mk (blk_below (g := gb155) (o := .cells #[.int .i64 ((rd_T23 l0 x4_1).f0), .int .i64 ((rd_T23 l0 x4_1).f1), .int .i64 ((rd_T23 l0 x4_1).f2), .int .i64 ((rd_T23 l0 x4_1).f3), .string ((rd_T23 l0 x4_1).f4), .string ((rd_T23 l0 x4_1).f5), .bool ((rd_T23 l0 x4_1).f6), .int .i64 ((rd_T23 l0 x4_1).f7)] 23 (0, 0)) (by (with_reducible repeat (first | refine blk_drewN ?_ _ | refine blk_drew ?_ | refine blk_alloc ?_ _)); exact BK155.out) hb); have n2_ := Aside0.mk (below_step (by repeat (first | (with_reducible first | exact HB.out | apply below_alloc | apply pw_below_drewN | apply below_drew1 | refine below_set ?_ GE155.out) | exact HB.out)) hb); clear BK155; clear HB; have HO160 := n0_; have BK155 := n1_; have HB := n2_; clear n0_ n1_ n2_; (try clear hb); (try clear hb2); (try clear hk); (try clear hi); (try clear ho0)))
       go_loopg [3, 7] k1 (fun kq v3 v7 w' => ∃ (x3_2 : ByteArray) (x7_2 : Int), v3 = .string x3_2 ∧ v7 = .int .i64 x7_2 ∧ Aside0 (rivuletref23_Show.l1 kq l0 x3_2 x4_1 t158 x7_2 ((rd_T23 l0 x4_1).f0) ((rd_T23 l0 x4_1).f1) ((rd_T23 l0 x4_1).f2) ((rd_T23 l0 x4_1).f3) ((rd_T23 l0 x4_1).f4) ((rd_T23 l0 x4_1).f5) ((rd_T23 l0 x4_1).f6) ((rd_T23 l0 x4_1).f7) = some r) ∧ Aside0 (kq ≤ k1) ∧ Aside0 (Kd.R (Kd.int .i64) 3 w' w.heap.size (fun _ => True) v159 t158) ∧ Aside0 (w'.heap[gb155]? = some (.cells #[.int .i64 ((rd_T23 l0 x4_1).f0), .int .i64 ((rd_T23 l0 x4_1).f1), .int .i64 ((rd_T23 l0 x4_1).f2), .int .i64 ((rd_T23 l0 x4_1).f3), .string ((rd_T23 l0 x4_1).f4), .string ((rd_T23 l0 x4_1).f5), .bool ((rd_T23 l0 x4_1).f6), .int .i64 ((rd_T23 l0 x4_1).f7)] 23 (0, 0))) ∧ Aside0 (Below w.heap.size w w'))
       case atStart => exact ⟨(x3_1 ++ t157), (0), (by first | rfl | (simp; done) | (simp [*]; done)), (by first | rfl | (simp; done) | (simp [*]; done)), H', ⟨Nat.le_refl _⟩, ⟨by (with_reducible repeat (first | apply Kd.R_alloc | apply Kd.R_drewN | apply Kd.R_drew)); exact HO160.out⟩, ⟨by (with_reducible repeat (first | refine blk_drewN ?_ _ | refine blk_drew ?_ | refine blk_alloc ?_ _)); exact BK155.out⟩, ⟨by repeat (first | (with_reducible first | exact HB.out | apply below_alloc | apply pw_below_drewN | apply below_drew1 | refine below_set ?_ GE155.out) | exact HB.out)⟩⟩
       case round =>
        clear H'
        try clear c1
        try clear p1
        try clear q1
        try clear hx1
        try clear c2
        try clear c2b0
        try clear p2
        try clear c3
        try clear c3b0
        try clear c4
        try clear c5
        try clear p6
        try clear c7
        try clear c7b0
        try clear c7b1
        try clear c7b2
        try clear c12
        try clear p15
        try clear q15
        try clear hx15
        try clear hcz10_0
        try clear hcz10_1
        try clear hcz10_2
        try clear hcz10_3
        try clear hcz10_4
        try clear hcz10_5
        try clear hcz10_6
        try clear hcz10_7
        try clear hcz12_0
        try clear hcz12_1
        try clear hcz12_2
        try clear hcz12_3
        try clear hcz12_4
        try clear hcz12_5
        try clear hcz12_6
        try clear hcz12_7
        try clear hcz14_0
        try clear hcz14_1
        try clear hcz14_2
        try clear hcz14_3
        try clear hcz14_4
        try clear hcz14_5
        try clear hcz14_6
        try clear hcz14_7
        try clear hfz10_0
        try clear hfz10_1
        try clear hfz10_2
        try clear hfz10_3
        try clear hfz10_4
        try clear hfz10_5
        try clear hfz10_6
        try clear hfz10_7
        try clear hfz12_0
        try clear hfz12_1
        try clear hfz12_2
        try clear hfz12_3
        try clear hfz12_4
        try clear hfz12_5
        try clear hfz12_6
        try clear hfz12_7
        try clear hfz14_0
        try clear hfz14_1
        try clear hfz14_2
        try clear hfz14_3
        try clear hfz14_4
        try clear hfz14_5
        try clear hfz14_6
        try clear hfz14_7
        try clear hx154_0
        try clear hx154_1
        try clear hx154_2
        try clear hx154_3
        try clear hx154_4
        try clear hx154_5
        try clear hx154_6
        try clear hx154_7
        try clear p154
        try clear q154
        obtain ⟨x3_2, x7_2, rfl, rfl, HA, HK2, HO_6, BK155, HB⟩ := hrel
        cases gk with
        | zero => exact absurd HA.out (by simp [rivuletref23_Show.l1])
        | succ k2 =>
         have H := HA.out
         clear HA
         simp only [rivuletref23_Show.l1] at H
         by_cases c16 : x7_2 < 4
         ·rw [if_pos c16] at H
          have c16b0 : decide (x7_2 < 4) = true := decide_eq_true c16
          clear c16
          replace H := Option.bind_eq_some_iff.mp H
          obtain ⟨t161, A170, H⟩ := H
          replace H : (if t161 = true then (if 0 ≤ x7_2 then (if x7_2 < (t158.length : Int) then ((rivuletref06_Digits.f (rd t158 x7_2)).bind fun t163 => (if 1 + t163.size ≤ 9223372036854775807 then (if x3_2.size + ((⟨#[32]⟩ : ByteArray) ++ t163).size ≤ 9223372036854775807 then (rivuletref23_Show.l1 k2 l0 (x3_2 ++ ((⟨#[32]⟩ : ByteArray) ++ t163)) x4_1 t158 (wrap64 (x7_2 + 1)) ((rd_T23 l0 x4_1).f0) ((rd_T23 l0 x4_1).f1) ((rd_T23 l0 x4_1).f2) ((rd_T23 l0 x4_1).f3) ((rd_T23 l0 x4_1).f4) ((rd_T23 l0 x4_1).f5) ((rd_T23 l0 x4_1).f6) ((rd_T23 l0 x4_1).f7)) else (none)) else (none))) else (none)) else (none)) else (rivuletref23_Show.l1 k2 l0 x3_2 x4_1 t158 (wrap64 (x7_2 + 1)) ((rd_T23 l0 x4_1).f0) ((rd_T23 l0 x4_1).f1) ((rd_T23 l0 x4_1).f2) ((rd_T23 l0 x4_1).f3) ((rd_T23 l0 x4_1).f4) ((rd_T23 l0 x4_1).f5) ((rd_T23 l0 x4_1).f6) ((rd_T23 l0 x4_1).f7))) = some r := H
          have A17 := Aside0.mk A170
          clear A170
          by_cases c18 : t161 = true
          ·subst c18
           have H1 : (if 0 ≤ x7_2 then (if x7_2 < (t158.length : Int) then ((rivuletref06_Digits.f (rd t158 x7_2)).bind fun t163 => (if 1 + t163.size ≤ 9223372036854775807 then (if x3_2.size + ((⟨#[32]⟩ : ByteArray) ++ t163).size ≤ 9223372036854775807 then (rivuletref23_Show.l1 k2 l0 (x3_2 ++ ((⟨#[32]⟩ : ByteArray) ++ t163)) x4_1 t158 (wrap64 (x7_2 + 1)) ((rd_T23 l0 x4_1).f0) ((rd_T23 l0 x4_1).f1) ((rd_T23 l0 x4_1).f2) ((rd_T23 l0 x4_1).f3) ((rd_T23 l0 x4_1).f4) ((rd_T23 l0 x4_1).f5) ((rd_T23 l0 x4_1).f6) ((rd_T23 l0 x4_1).f7)) else (none)) else (none))) else (none)) else (none)) = some r := by rw [if_pos rfl] at H; exact H
           clear H
           have H := H1
           clear H1
           by_cases c19 : 0 ≤ x7_2
           ·rw [if_pos c19] at H
            have c19b0 : decide (0 ≤ x7_2) = true := decide_eq_true c19
            clear c19
            by_cases c20 : x7_2 < (t158.length : Int)
            ·rw [if_pos c20] at H
             have c20b0 : decide (x7_2 < (t158.length : Int)) = true := decide_eq_true c20
             clear c20
             replace H := Option.bind_eq_some_iff.mp H
             obtain ⟨t163, A210, H⟩ := H
             replace H : (if 1 + t163.size ≤ 9223372036854775807 then (if x3_2.size + ((⟨#[32]⟩ : ByteArray) ++ t163).size ≤ 9223372036854775807 then (rivuletref23_Show.l1 k2 l0 (x3_2 ++ ((⟨#[32]⟩ : ByteArray) ++ t163)) x4_1 t158 (wrap64 (x7_2 + 1)) ((rd_T23 l0 x4_1).f0) ((rd_T23 l0 x4_1).f1) ((rd_T23 l0 x4_1).f2) ((rd_T23 l0 x4_1).f3) ((rd_T23 l0 x4_1).f4) ((rd_T23 l0 x4_1).f5) ((rd_T23 l0 x4_1).f6) ((rd_T23 l0 x4_1).f7)) else (none)) else (none)) = some r := H
             have A21 := Aside0.mk A210
             clear A210
             by_cases c22 : 1 + t163.size ≤ 9223372036854775807
             ·rw [if_pos c22] at H
              have c22b0 := eq_true c22
              have c22b1 : decide (1 + t163.size ≤ 9223372036854775807) = true := decide_eq_true c22
              try have c22b2 : (9223372036854775807 < 1 + t163.size) = False := eq_false (Nat.not_lt.2 c22)
              by_cases c23 : x3_2.size + ((⟨#[32]⟩ : ByteArray) ++ t163).size ≤ 9223372036854775807
              ·rw [if_pos c23] at H
               have c23b0 := eq_true c23
               (try (have c23z0 := eq_true c23; simp only [ByteArray.size_append, show (⟨#[32]⟩ : ByteArray).size = 1 from rfl] at c23z0))
               (try (have c23z1 := eq_false (Nat.not_lt.2 c23); simp only [ByteArray.size_append, show (⟨#[32]⟩ : ByteArray).size = 1 from rfl] at c23z1))
               have c23b1 : decide (x3_2.size + ((⟨#[32]⟩ : ByteArray) ++ t163).size ≤ 9223372036854775807) = true := decide_eq_true c23
               try have c23b2 : (9223372036854775807 < x3_2.size + ((⟨#[32]⟩ : ByteArray) ++ t163).size) = False := eq_false (Nat.not_lt.2 c23)
               have H' := Aside0.mk H
               clear H
               have hcz24_0 : wr.cell? ⟨gb155, 0, none⟩ = some (.int .i64 ((rd_T23 l0 x4_1).f0)) := (blk_cell BK155.out 0).trans rfl
               have hcz24_1 : wr.cell? ⟨gb155, 1, none⟩ = some (.int .i64 ((rd_T23 l0 x4_1).f1)) := (blk_cell BK155.out 1).trans rfl
               have hcz24_2 : wr.cell? ⟨gb155, 2, none⟩ = some (.int .i64 ((rd_T23 l0 x4_1).f2)) := (blk_cell BK155.out 2).trans rfl
               have hcz24_3 : wr.cell? ⟨gb155, 3, none⟩ = some (.int .i64 ((rd_T23 l0 x4_1).f3)) := (blk_cell BK155.out 3).trans rfl
               have hcz24_4 : wr.cell? ⟨gb155, 4, none⟩ = some (.string ((rd_T23 l0 x4_1).f4)) := (blk_cell BK155.out 4).trans rfl
               have hcz24_5 : wr.cell? ⟨gb155, 5, none⟩ = some (.string ((rd_T23 l0 x4_1).f5)) := (blk_cell BK155.out 5).trans rfl
               have hcz24_6 : wr.cell? ⟨gb155, 6, none⟩ = some (.bool ((rd_T23 l0 x4_1).f6)) := (blk_cell BK155.out 6).trans rfl
               have hcz24_7 : wr.cell? ⟨gb155, 7, none⟩ = some (.int .i64 ((rd_T23 l0 x4_1).f7)) := (blk_cell BK155.out 7).trans rfl
               have hfz24_0 := blk_frozen BK155.out 0
               have hfz24_1 := blk_frozen BK155.out 1
               have hfz24_2 := blk_frozen BK155.out 2
               have hfz24_3 := blk_frozen BK155.out 3
               have hfz24_4 := blk_frozen BK155.out 4
               have hfz24_5 := blk_frozen BK155.out 5
               have hfz24_6 := blk_frozen BK155.out 6
               have hfz24_7 := blk_frozen BK155.out 7
               go_wp2_with (first | ((with_reducible refine gate_callee (f := 41) rfl ?_); refine goesL_ (some 35) rfl rfl Tryd.func41 (by kernel_rfl) rfl #[.int .i64 ((rd_T23 l0 x4_1).f0), .int .i64 x7_2] rfl (by (try simp only [List.map_toArray, List.map_cons, List.map_nil]); first | done | rfl | (simp only [List.length_drop, List.length_take]; rfl)) ?_; (with_reducible refine (rivuletref23_Has.calls ((rd_T23 l0 x4_1).f0) x7_2 true _ A17.out).mono ?_); rintro e w25 ⟨rfl, hb⟩; refine ⟨_, rfl, ?_⟩; have n0_ := Aside0.mk (Kd.R_below (by (with_reducible repeat (first | apply Kd.R_alloc | apply Kd.R_drewN | apply Kd.R_drew)); exact HO_6.out) hb); have n1_ := Aside0.mk (blk_below (g := gb155) (o := .cells #[.int .i64 ((rd_T23 l0 x4_1).f0), .int .i64 ((rd_T23 l0 x4_1).f1), .int .i64 ((rd_T23 l0 x4_1).f2), .int .i64 ((rd_T23 l0 x4_1).f3), .string ((rd_T23 l0 x4_1).f4), .string ((rd_T23 l0 x4_1).f5), .bool ((rd_T23 l0 x4_1).f6), .int .i64 ((rd_T23 l0 x4_1).f7)] 23 (0, 0)) (by (with_reducible repeat (first | refine blk_drewN ?_ _ | refine blk_drew ?_ | refine blk_alloc ?_ _)); exact BK155.out) hb); have n2_ := Aside0.mk (below_step (by repeat (first | (with_reducible first | exact HB.out | apply below_alloc | apply pw_below_drewN | apply below_drew1 | refine below_set ?_ GE155.out) | exact HB.out)) hb); clear HO_6; clear BK155; clear HB; have HO_6 := n0_; have BK155 := n1_; have HB := n2_; clear n0_ n1_ n2_; (try clear hb); (try clear hb2); (try clear hk); (try clear hi); obtain ⟨Ao26, co26, eo26⟩ := Kd.R_slice HO_6.out; subst eo26; have p162 : 0 ≤ (x7_2 : Int) := of_decide_eq_true (by first | (with_reducible assumption) | assumption); have q162 : x7_2 < (t158.length : Int) := of_decide_eq_true (by first | (with_reducible assumption) | assumption); obtain ⟨ad162, e162, hx162_0⟩ := Kd.at_int (Kd.R_reads' HO_6.out).2.2 x7_2 p162 q162; cases e162; replace p162 := eq_true p162; replace q162 := eq_true q162) | ((with_reducible refine gate_callee (f := 50) rfl ?_); refine goesL_ (some 41) rfl rfl Tryd.func50 (by kernel_rfl) rfl #[.int .i64 (rd t158 x7_2)] rfl (by (try simp only [List.map_toArray, List.map_cons, List.map_nil]); first | done | rfl | (simp only [List.length_drop, List.length_take]; rfl)) ?_; (with_reducible refine (rivuletref06_Digits.calls (rd t158 x7_2) t163 _ A21.out).mono ?_); rintro e w27 ⟨rfl, hb⟩; refine ⟨_, rfl, ?_⟩; have n0_ := Aside0.mk (Kd.R_below (by (with_reducible repeat (first | apply Kd.R_alloc | apply Kd.R_drewN | apply Kd.R_drew)); exact HO_6.out) hb); have n1_ := Aside0.mk (blk_below (g := gb155) (o := .cells #[.int .i64 ((rd_T23 l0 x4_1).f0), .int .i64 ((rd_T23 l0 x4_1).f1), .int .i64 ((rd_T23 l0 x4_1).f2), .int .i64 ((rd_T23 l0 x4_1).f3), .string ((rd_T23 l0 x4_1).f4), .string ((rd_T23 l0 x4_1).f5), .bool ((rd_T23 l0 x4_1).f6), .int .i64 ((rd_T23 l0 x4_1).f7)] 23 (0, 0)) (by (with_reducible repeat (first | refine blk_drewN ?_ _ | refine blk_drew ?_ | refine blk_alloc ?_ _)); exact BK155.out) hb); have n2_ := Aside0.mk (below_step (by repeat (first | (with_reducible first | exact HB.out | apply below_alloc | apply pw_below_drewN | apply below_drew1 | refine below_set ?_ GE155.out) | exact HB.out)) hb); clear HO_6; clear BK155; clear HB; have HO_6 := n0_; have BK155 := n1_; have HB := n2_; clear n0_ n1_ n2_; (try clear hb); (try clear hb2); (try clear hk); (try clear hi)))
               go_roundg k2
               case measure => have := HK1.out; have := HK2.out; omega
               case rel => exact ⟨(x3_2 ++ ((⟨#[32]⟩ : ByteArray) ++ t163)), (wrap64 (x7_2 + 1)), (by first | rfl | (simp; done) | (simp [*]; done)), (by first | rfl | (simp; done) | (simp [*]; done)), H', ⟨by have := HK1.out; have := HK2.out; omega⟩, ⟨by (with_reducible repeat (first | apply Kd.R_alloc | apply Kd.R_drewN | apply Kd.R_drew)); exact HO_6.out⟩, ⟨by (with_reducible repeat (first | refine blk_drewN ?_ _ | refine blk_drew ?_ | refine blk_alloc ?_ _)); exact BK155.out⟩, ⟨by repeat (first | (with_reducible first | exact HB.out | apply below_alloc | apply pw_below_drewN | apply below_drew1 | refine below_set ?_ GE155.out) | exact HB.out)⟩⟩
              ·rw [if_neg c23] at H
               exact absurd H (by simp)
             ·rw [if_neg c22] at H
              exact absurd H (by simp)
            ·rw [if_neg c20] at H
             exact absurd H (by simp)
           ·rw [if_neg c19] at H
            exact absurd H (by simp)
          ·replace c18 := Bool.eq_false_iff.mpr c18
           subst c18
           have H1 : (rivuletref23_Show.l1 k2 l0 x3_2 x4_1 t158 (wrap64 (x7_2 + 1)) ((rd_T23 l0 x4_1).f0) ((rd_T23 l0 x4_1).f1) ((rd_T23 l0 x4_1).f2) ((rd_T23 l0 x4_1).f3) ((rd_T23 l0 x4_1).f4) ((rd_T23 l0 x4_1).f5) ((rd_T23 l0 x4_1).f6) ((rd_T23 l0 x4_1).f7)) = some r := by rw [if_neg (show ¬ (false = true) by decide)] at H; exact H
           clear H
           have H := H1
           clear H1
           have H' := Aside0.mk H
           clear H
           have hcz28_0 : wr.cell? ⟨gb155, 0, none⟩ = some (.int .i64 ((rd_T23 l0 x4_1).f0)) := (blk_cell BK155.out 0).trans rfl
           have hcz28_1 : wr.cell? ⟨gb155, 1, none⟩ = some (.int .i64 ((rd_T23 l0 x4_1).f1)) := (blk_cell BK155.out 1).trans rfl
           have hcz28_2 : wr.cell? ⟨gb155, 2, none⟩ = some (.int .i64 ((rd_T23 l0 x4_1).f2)) := (blk_cell BK155.out 2).trans rfl
           have hcz28_3 : wr.cell? ⟨gb155, 3, none⟩ = some (.int .i64 ((rd_T23 l0 x4_1).f3)) := (blk_cell BK155.out 3).trans rfl
           have hcz28_4 : wr.cell? ⟨gb155, 4, none⟩ = some (.string ((rd_T23 l0 x4_1).f4)) := (blk_cell BK155.out 4).trans rfl
           have hcz28_5 : wr.cell? ⟨gb155, 5, none⟩ = some (.string ((rd_T23 l0 x4_1).f5)) := (blk_cell BK155.out 5).trans rfl
           have hcz28_6 : wr.cell? ⟨gb155, 6, none⟩ = some (.bool ((rd_T23 l0 x4_1).f6)) := (blk_cell BK155.out 6).trans rfl
           have hcz28_7 : wr.cell? ⟨gb155, 7, none⟩ = some (.int .i64 ((rd_T23 l0 x4_1).f7)) := (blk_cell BK155.out 7).trans rfl
           have hfz28_0 := blk_frozen BK155.out 0
           have hfz28_1 := blk_frozen BK155.out 1
           have hfz28_2 := blk_frozen BK155.out 2
           have hfz28_3 := blk_frozen BK155.out 3
           have hfz28_4 := blk_frozen BK155.out 4
           have hfz28_5 := blk_frozen BK155.out 5
           have hfz28_6 := blk_frozen BK155.out 6
           have hfz28_7 := blk_frozen BK155.out 7
           go_wp2_with (first | ((with_reducible refine gate_callee (f := 41) rfl ?_); refine goesL_ (some 35) rfl rfl Tryd.func41 (by kernel_rfl) rfl #[.int .i64 ((rd_T23 l0 x4_1).f0), .int .i64 x7_2] rfl (by (try simp only [List.map_toArray, List.map_cons, List.map_nil]); first | done | rfl | (simp only [List.length_drop, List.length_take]; rfl)) ?_; (with_reducible refine (rivuletref23_Has.calls ((rd_T23 l0 x4_1).f0) x7_2 false _ A17.out).mono ?_); rintro e w29 ⟨rfl, hb⟩; refine ⟨_, rfl, ?_⟩; have n0_ := Aside0.mk (Kd.R_below (by (with_reducible repeat (first | apply Kd.R_alloc | apply Kd.R_drewN | apply Kd.R_drew)); exact HO_6.out) hb); have n1_ := Aside0.mk (blk_below (g := gb155) (o := .cells #[.int .i64 ((rd_T23 l0 x4_1).f0), .int .i64 ((rd_T23 l0 x4_1).f1), .int .i64 ((rd_T23 l0 x4_1).f2), .int .i64 ((rd_T23 l0 x4_1).f3), .string ((rd_T23 l0 x4_1).f4), .string ((rd_T23 l0 x4_1).f5), .bool ((rd_T23 l0 x4_1).f6), .int .i64 ((rd_T23 l0 x4_1).f7)] 23 (0, 0)) (by (with_reducible repeat (first | refine blk_drewN ?_ _ | refine blk_drew ?_ | refine blk_alloc ?_ _)); exact BK155.out) hb); have n2_ := Aside0.mk (below_step (by repeat (first | (with_reducible first | exact HB.out | apply below_alloc | apply pw_below_drewN | apply below_drew1 | refine below_set ?_ GE155.out) | exact HB.out)) hb); clear HO_6; clear BK155; clear HB; have HO_6 := n0_; have BK155 := n1_; have HB := n2_; clear n0_ n1_ n2_; (try clear hb); (try clear hb2); (try clear hk); (try clear hi)))
           go_roundg k2
           case measure => have := HK1.out; have := HK2.out; omega
           case rel => exact ⟨(x3_2), (wrap64 (x7_2 + 1)), (by first | rfl | (simp; done) | (simp [*]; done)), (by first | rfl | (simp; done) | (simp [*]; done)), H', ⟨by have := HK1.out; have := HK2.out; omega⟩, ⟨by (with_reducible repeat (first | apply Kd.R_alloc | apply Kd.R_drewN | apply Kd.R_drew)); exact HO_6.out⟩, ⟨by (with_reducible repeat (first | refine blk_drewN ?_ _ | refine blk_drew ?_ | refine blk_alloc ?_ _)); exact BK155.out⟩, ⟨by repeat (first | (with_reducible first | exact HB.out | apply below_alloc | apply pw_below_drewN | apply below_drew1 | refine below_set ?_ GE155.out) | exact HB.out)⟩⟩
         ·rw [if_neg c16] at H
          have c16b0 : decide (x7_2 < 4) = false := decide_eq_false c16
          clear c16
          have HC30 := Aside0.mk H
          clear H
          go_upto_region 14 with (fail)
          go_cut [50] (fun v50 wc => ∃ (kq : Nat) (x50_29 : Bool), v50 = .bool x50_29 ∧ Aside0 (rivuletref23_Show.j2 kq l0 x3_2 x4_1 x50_29 ((rd_T23 l0 x4_1).f0) ((rd_T23 l0 x4_1).f1) ((rd_T23 l0 x4_1).f2) ((rd_T23 l0 x4_1).f3) ((rd_T23 l0 x4_1).f4) ((rd_T23 l0 x4_1).f5) ((rd_T23 l0 x4_1).f6) ((rd_T23 l0 x4_1).f7) = some r) ∧ Aside0 (kq ≤ k2) ∧ Aside0 (wc.heap[gb155]? = some (.cells #[.int .i64 ((rd_T23 l0 x4_1).f0), .int .i64 ((rd_T23 l0 x4_1).f1), .int .i64 ((rd_T23 l0 x4_1).f2), .int .i64 ((rd_T23 l0 x4_1).f3), .string ((rd_T23 l0 x4_1).f4), .string ((rd_T23 l0 x4_1).f5), .bool ((rd_T23 l0 x4_1).f6), .int .i64 ((rd_T23 l0 x4_1).f7)] 23 (0, 0))) ∧ Aside0 (Below w.heap.size w wc))
          case first =>
           have H := HC30.out
           clear HC30
           replace H := Option.bind_eq_some_iff.mp H
           obtain ⟨t164, A310, H⟩ := H
           replace H : (if t164 = true then (rivuletref23_Show.j2 k2 l0 x3_2 x4_1 ((rd_T23 l0 x4_1).f6) ((rd_T23 l0 x4_1).f0) ((rd_T23 l0 x4_1).f1) ((rd_T23 l0 x4_1).f2) ((rd_T23 l0 x4_1).f3) ((rd_T23 l0 x4_1).f4) ((rd_T23 l0 x4_1).f5) ((rd_T23 l0 x4_1).f6) ((rd_T23 l0 x4_1).f7)) else (rivuletref23_Show.j2 k2 l0 x3_2 x4_1 false ((rd_T23 l0 x4_1).f0) ((rd_T23 l0 x4_1).f1) ((rd_T23 l0 x4_1).f2) ((rd_T23 l0 x4_1).f3) ((rd_T23 l0 x4_1).f4) ((rd_T23 l0 x4_1).f5) ((rd_T23 l0 x4_1).f6) ((rd_T23 l0 x4_1).f7))) = some r := H
           have A31 := Aside0.mk A310
           clear A310
           by_cases c32 : t164 = true
           ·subst c32
            have H1 : (rivuletref23_Show.j2 k2 l0 x3_2 x4_1 ((rd_T23 l0 x4_1).f6) ((rd_T23 l0 x4_1).f0) ((rd_T23 l0 x4_1).f1) ((rd_T23 l0 x4_1).f2) ((rd_T23 l0 x4_1).f3) ((rd_T23 l0 x4_1).f4) ((rd_T23 l0 x4_1).f5) ((rd_T23 l0 x4_1).f6) ((rd_T23 l0 x4_1).f7)) = some r := by rw [if_pos rfl] at H; exact H
            clear H
            have H := H1
            clear H1
            have H' := Aside0.mk H
            clear H
            have hcz33_0 : wr.cell? ⟨gb155, 0, none⟩ = some (.int .i64 ((rd_T23 l0 x4_1).f0)) := (blk_cell BK155.out 0).trans rfl
            have hcz33_1 : wr.cell? ⟨gb155, 1, none⟩ = some (.int .i64 ((rd_T23 l0 x4_1).f1)) := (blk_cell BK155.out 1).trans rfl
            have hcz33_2 : wr.cell? ⟨gb155, 2, none⟩ = some (.int .i64 ((rd_T23 l0 x4_1).f2)) := (blk_cell BK155.out 2).trans rfl
            have hcz33_3 : wr.cell? ⟨gb155, 3, none⟩ = some (.int .i64 ((rd_T23 l0 x4_1).f3)) := (blk_cell BK155.out 3).trans rfl
            have hcz33_4 : wr.cell? ⟨gb155, 4, none⟩ = some (.string ((rd_T23 l0 x4_1).f4)) := (blk_cell BK155.out 4).trans rfl
            have hcz33_5 : wr.cell? ⟨gb155, 5, none⟩ = some (.string ((rd_T23 l0 x4_1).f5)) := (blk_cell BK155.out 5).trans rfl
            have hcz33_6 : wr.cell? ⟨gb155, 6, none⟩ = some (.bool ((rd_T23 l0 x4_1).f6)) := (blk_cell BK155.out 6).trans rfl
            have hcz33_7 : wr.cell? ⟨gb155, 7, none⟩ = some (.int .i64 ((rd_T23 l0 x4_1).f7)) := (blk_cell BK155.out 7).trans rfl
            have hfz33_0 := blk_frozen BK155.out 0
            have hfz33_1 := blk_frozen BK155.out 1
            have hfz33_2 := blk_frozen BK155.out 2
            have hfz33_3 := blk_frozen BK155.out 3
            have hfz33_4 := blk_frozen BK155.out 4
            have hfz33_5 := blk_frozen BK155.out 5
            have hfz33_6 := blk_frozen BK155.out 6
            have hfz33_7 := blk_frozen BK155.out 7
            go_wp2_with (first | ((with_reducible refine gate_callee (f := 41) rfl ?_); refine goesL_ (some 46) rfl rfl Tryd.func41 (by kernel_rfl) rfl #[.int .i64 ((rd_T23 l0 x4_1).f0), .int .i64 4] rfl (by (try simp only [List.map_toArray, List.map_cons, List.map_nil]); first | done | rfl | (simp only [List.length_drop, List.length_take]; rfl)) ?_; (with_reducible refine (rivuletref23_Has.calls ((rd_T23 l0 x4_1).f0) 4 true _ A31.out).mono ?_); rintro e w34 ⟨rfl, hb⟩; refine ⟨_, rfl, ?_⟩; have n0_ := Aside0.mk (Kd.R_below (by (with_reducible repeat (first | apply Kd.R_alloc | apply Kd.R_drewN | apply Kd.R_drew)); exact HO_6.out) hb); have n1_ := Aside0.mk (blk_below (g := gb155) (o := .cells #[.int .i64 ((rd_T23 l0 x4_1).f0), .int .i64 ((rd_T23 l0 x4_1).f1), .int .i64 ((rd_T23 l0 x4_1).f2), .int .i64 ((rd_T23 l0 x4_1).f3), .string ((rd_T23 l0 x4_1).f4), .string ((rd_T23 l0 x4_1).f5), .bool ((rd_T23 l0 x4_1).f6), .int .i64 ((rd_T23 l0 x4_1).f7)] 23 (0, 0)) (by (with_reducible repeat (first | refine blk_drewN ?_ _ | refine blk_drew ?_ | refine blk_alloc ?_ _)); exact BK155.out) hb); have n2_ := Aside0.mk (below_step (by repeat (first | (with_reducible first | exact HB.out | apply below_alloc | apply pw_below_drewN | apply below_drew1 | refine below_set ?_ GE155.out) | exact HB.out)) hb); clear HO_6; clear BK155; clear HB; have HO_6 := n0_; have BK155 := n1_; have HB := n2_; clear n0_ n1_ n2_; (try clear hb); (try clear hb2); (try clear hk); (try clear hi); have hcz35_0 : w34.cell? ⟨gb155, 0, none⟩ = some (.int .i64 ((rd_T23 l0 x4_1).f0)) := (blk_cell BK155.out 0).trans rfl; have hcz35_1 : w34.cell? ⟨gb155, 1, none⟩ = some (.int .i64 ((rd_T23 l0 x4_1).f1)) := (blk_cell BK155.out 1).trans rfl; have hcz35_2 : w34.cell? ⟨gb155, 2, none⟩ = some (.int .i64 ((rd_T23 l0 x4_1).f2)) := (blk_cell BK155.out 2).trans rfl; have hcz35_3 : w34.cell? ⟨gb155, 3, none⟩ = some (.int .i64 ((rd_T23 l0 x4_1).f3)) := (blk_cell BK155.out 3).trans rfl; have hcz35_4 : w34.cell? ⟨gb155, 4, none⟩ = some (.string ((rd_T23 l0 x4_1).f4)) := (blk_cell BK155.out 4).trans rfl; have hcz35_5 : w34.cell? ⟨gb155, 5, none⟩ = some (.string ((rd_T23 l0 x4_1).f5)) := (blk_cell BK155.out 5).trans rfl; have hcz35_6 : w34.cell? ⟨gb155, 6, none⟩ = some (.bool ((rd_T23 l0 x4_1).f6)) := (blk_cell BK155.out 6).trans rfl; have hcz35_7 : w34.cell? ⟨gb155, 7, none⟩ = some (.int .i64 ((rd_T23 l0 x4_1).f7)) := (blk_cell BK155.out 7).trans rfl; have hfz35_0 := blk_frozen BK155.out 0; have hfz35_1 := blk_frozen BK155.out 1; have hfz35_2 := blk_frozen BK155.out 2; have hfz35_3 := blk_frozen BK155.out 3; have hfz35_4 := blk_frozen BK155.out 4; have hfz35_5 := blk_frozen BK155.out 5; have hfz35_6 := blk_frozen BK155.out 6; have hfz35_7 := blk_frozen BK155.out 7))
            go_meet
            case rel => exact ⟨_, (((rd_T23 l0 x4_1).f6)), (by first | rfl | (simp; done) | (simp [*]; done)), H', ⟨by have := HK1.out; have := HK2.out; first | omega | exact Nat.le_refl _⟩, ⟨by (with_reducible repeat (first | refine blk_drewN ?_ _ | refine blk_drew ?_ | refine blk_alloc ?_ _)); exact BK155.out⟩, ⟨by repeat (first | (with_reducible first | exact HB.out | apply below_alloc | apply pw_below_drewN | apply below_drew1 | refine below_set ?_ GE155.out) | exact HB.out)⟩⟩
           ·replace c32 := Bool.eq_false_iff.mpr c32
            subst c32
            have H1 : (rivuletref23_Show.j2 k2 l0 x3_2 x4_1 false ((rd_T23 l0 x4_1).f0) ((rd_T23 l0 x4_1).f1) ((rd_T23 l0 x4_1).f2) ((rd_T23 l0 x4_1).f3) ((rd_T23 l0 x4_1).f4) ((rd_T23 l0 x4_1).f5) ((rd_T23 l0 x4_1).f6) ((rd_T23 l0 x4_1).f7)) = some r := by rw [if_neg (show ¬ (false = true) by decide)] at H; exact H
            clear H
            have H := H1
            clear H1
            have H' := Aside0.mk H
            clear H
            have hcz36_0 : wr.cell? ⟨gb155, 0, none⟩ = some (.int .i64 ((rd_T23 l0 x4_1).f0)) := (blk_cell BK155.out 0).trans rfl
            have hcz36_1 : wr.cell? ⟨gb155, 1, none⟩ = some (.int .i64 ((rd_T23 l0 x4_1).f1)) := (blk_cell BK155.out 1).trans rfl
            have hcz36_2 : wr.cell? ⟨gb155, 2, none⟩ = some (.int .i64 ((rd_T23 l0 x4_1).f2)) := (blk_cell BK155.out 2).trans rfl
            have hcz36_3 : wr.cell? ⟨gb155, 3, none⟩ = some (.int .i64 ((rd_T23 l0 x4_1).f3)) := (blk_cell BK155.out 3).trans rfl
            have hcz36_4 : wr.cell? ⟨gb155, 4, none⟩ = some (.string ((rd_T23 l0 x4_1).f4)) := (blk_cell BK155.out 4).trans rfl
            have hcz36_5 : wr.cell? ⟨gb155, 5, none⟩ = some (.string ((rd_T23 l0 x4_1).f5)) := (blk_cell BK155.out 5).trans rfl
            have hcz36_6 : wr.cell? ⟨gb155, 6, none⟩ = some (.bool ((rd_T23 l0 x4_1).f6)) := (blk_cell BK155.out 6).trans rfl
            have hcz36_7 : wr.cell? ⟨gb155, 7, none⟩ = some (.int .i64 ((rd_T23 l0 x4_1).f7)) := (blk_cell BK155.out 7).trans rfl
            have hfz36_0 := blk_frozen BK155.out 0
            have hfz36_1 := blk_frozen BK155.out 1
            have hfz36_2 := blk_frozen BK155.out 2
            have hfz36_3 := blk_frozen BK155.out 3
            have hfz36_4 := blk_frozen BK155.out 4
            have hfz36_5 := blk_frozen BK155.out 5
            have hfz36_6 := blk_frozen BK155.out 6
            have hfz36_7 := blk_frozen BK155.out 7
            go_wp2_with (first | ((with_reducible refine gate_callee (f := 41) rfl ?_); refine goesL_ (some 46) rfl rfl Tryd.func41 (by kernel_rfl) rfl #[.int .i64 ((rd_T23 l0 x4_1).f0), .int .i64 4] rfl (by (try simp only [List.map_toArray, List.map_cons, List.map_nil]); first | done | rfl | (simp only [List.length_drop, List.length_take]; rfl)) ?_; (with_reducible refine (rivuletref23_Has.calls ((rd_T23 l0 x4_1).f0) 4 false _ A31.out).mono ?_); rintro e w37 ⟨rfl, hb⟩; refine ⟨_, rfl, ?_⟩; have n0_ := Aside0.mk (Kd.R_below (by (with_reducible repeat (first | apply Kd.R_alloc | apply Kd.R_drewN | apply Kd.R_drew)); exact HO_6.out) hb); have n1_ := Aside0.mk (blk_below (g := gb155) (o := .cells #[.int .i64 ((rd_T23 l0 x4_1).f0), .int .i64 ((rd_T23 l0 x4_1).f1), .int .i64 ((rd_T23 l0 x4_1).f2), .int .i64 ((rd_T23 l0 x4_1).f3), .string ((rd_T23 l0 x4_1).f4), .string ((rd_T23 l0 x4_1).f5), .bool ((rd_T23 l0 x4_1).f6), .int .i64 ((rd_T23 l0 x4_1).f7)] 23 (0, 0)) (by (with_reducible repeat (first | refine blk_drewN ?_ _ | refine blk_drew ?_ | refine blk_alloc ?_ _)); exact BK155.out) hb); have n2_ := Aside0.mk (below_step (by repeat (first | (with_reducible first | exact HB.out | apply below_alloc | apply pw_below_drewN | apply below_drew1 | refine below_set ?_ GE155.out) | exact HB.out)) hb); clear HO_6; clear BK155; clear HB; have HO_6 := n0_; have BK155 := n1_; have HB := n2_; clear n0_ n1_ n2_; (try clear hb); (try clear hb2); (try clear hk); (try clear hi)))
            go_meet
            case rel => exact ⟨_, (false), (by first | rfl | (simp; done) | (simp [*]; done)), H', ⟨by have := HK1.out; have := HK2.out; first | omega | exact Nat.le_refl _⟩, ⟨by (with_reducible repeat (first | refine blk_drewN ?_ _ | refine blk_drew ?_ | refine blk_alloc ?_ _)); exact BK155.out⟩, ⟨by repeat (first | (with_reducible first | exact HB.out | apply below_alloc | apply pw_below_drewN | apply below_drew1 | refine below_set ?_ GE155.out) | exact HB.out)⟩⟩
          case rest =>
           clear HC30
           try clear c1
           try clear p1
           try clear q1
           try clear hx1
           try clear c2
           try clear c2b0
           try clear p2
           try clear c3
           try clear c3b0
           try clear c4
           try clear c5
           try clear p6
           try clear c7
           try clear c7b0
           try clear c7b1
           try clear c7b2
           try clear c12
           try clear p15
           try clear q15
           try clear hx15
           try clear c16
           try clear c16b0
           try clear p16
           try clear q16
           try clear hx16
           try clear c18
           try clear c19
           try clear c19b0
           try clear c20
           try clear c20b0
           try clear c22
           try clear c22b0
           try clear c22b1
           try clear c22b2
           try clear c23
           try clear c23b0
           try clear c23b1
           try clear c23b2
           try clear c32
           try clear hcz10_0
           try clear hcz10_1
           try clear hcz10_2
           try clear hcz10_3
           try clear hcz10_4
           try clear hcz10_5
           try clear hcz10_6
           try clear hcz10_7
           try clear hcz12_0
           try clear hcz12_1
           try clear hcz12_2
           try clear hcz12_3
           try clear hcz12_4
           try clear hcz12_5
           try clear hcz12_6
           try clear hcz12_7
           try clear hcz14_0
           try clear hcz14_1
           try clear hcz14_2
           try clear hcz14_3
           try clear hcz14_4
           try clear hcz14_5
           try clear hcz14_6
           try clear hcz14_7
           try clear hcz24_0
           try clear hcz24_1
           try clear hcz24_2
           try clear hcz24_3
           try clear hcz24_4
           try clear hcz24_5
           try clear hcz24_6
           try clear hcz24_7
           try clear hcz28_0
           try clear hcz28_1
           try clear hcz28_2
           try clear hcz28_3
           try clear hcz28_4
           try clear hcz28_5
           try clear hcz28_6
           try clear hcz28_7
           try clear hcz33_0
           try clear hcz33_1
           try clear hcz33_2
           try clear hcz33_3
           try clear hcz33_4
           try clear hcz33_5
           try clear hcz33_6
           try clear hcz33_7
           try clear hcz35_0
           try clear hcz35_1
           try clear hcz35_2
           try clear hcz35_3
           try clear hcz35_4
           try clear hcz35_5
           try clear hcz35_6
           try clear hcz35_7
           try clear hcz36_0
           try clear hcz36_1
           try clear hcz36_2
           try clear hcz36_3
           try clear hcz36_4
           try clear hcz36_5
           try clear hcz36_6
           try clear hcz36_7
           try clear hfz10_0
           try clear hfz10_1
           try clear hfz10_2
           try clear hfz10_3
           try clear hfz10_4
           try clear hfz10_5
           try clear hfz10_6
           try clear hfz10_7
           try clear hfz12_0
           try clear hfz12_1
           try clear hfz12_2
           try clear hfz12_3
           try clear hfz12_4
           try clear hfz12_5
           try clear hfz12_6
           try clear hfz12_7
           try clear hfz14_0
           try clear hfz14_1
           try clear hfz14_2
           try clear hfz14_3
           try clear hfz14_4
           try clear hfz14_5
           try clear hfz14_6
           try clear hfz14_7
           try clear hfz24_0
           try clear hfz24_1
           try clear hfz24_2
           try clear hfz24_3
           try clear hfz24_4
           try clear hfz24_5
           try clear hfz24_6
           try clear hfz24_7
           try clear hfz28_0
           try clear hfz28_1
           try clear hfz28_2
           try clear hfz28_3
           try clear hfz28_4
           try clear hfz28_5
           try clear hfz28_6
           try clear hfz28_7
           try clear hfz33_0
           try clear hfz33_1
           try clear hfz33_2
           try clear hfz33_3
           try clear hfz33_4
           try clear hfz33_5
           try clear hfz33_6
           try clear hfz33_7
           try clear hfz35_0
           try clear hfz35_1
           try clear hfz35_2
           try clear hfz35_3
           try clear hfz35_4
           try clear hfz35_5
           try clear hfz35_6
           try clear hfz35_7
           try clear hfz36_0
           try clear hfz36_1
           try clear hfz36_2
           try clear hfz36_3
           try clear hfz36_4
           try clear hfz36_5
           try clear hfz36_6
           try clear hfz36_7
           try clear hx154_0
           try clear hx154_1
           try clear hx154_2
           try clear hx154_3
           try clear hx154_4
           try clear hx154_5
           try clear hx154_6
           try clear hx154_7
           try clear hx162_0
           try clear p1
           try clear p15
           try clear p154
           try clear p162
           try clear p2
           try clear p6
           try clear q1
           try clear q15
           try clear q154
           try clear q162
           obtain ⟨kq, x50_29, rfl, HA, HJ29, BK155, HB⟩ := hcut
           cases kq with
           | zero => exact absurd HA.out (by simp [rivuletref23_Show.j2])
           | succ kj29 =>
            have H := HA.out
            clear HA
            simp only [rivuletref23_Show.j2] at H
            have HC38 := Aside0.mk H
            clear H
            go_upto_if 50 with (fail)
            go_cut [3] (fun v3 wc => ∃ (kq : Nat) (x3_37 : ByteArray), v3 = .string x3_37 ∧ Aside0 (rivuletref23_Show.j3 kq l0 x3_37 x4_1 ((rd_T23 l0 x4_1).f0) ((rd_T23 l0 x4_1).f1) ((rd_T23 l0 x4_1).f2) ((rd_T23 l0 x4_1).f3) ((rd_T23 l0 x4_1).f4) ((rd_T23 l0 x4_1).f5) ((rd_T23 l0 x4_1).f6) ((rd_T23 l0 x4_1).f7) = some r) ∧ Aside0 (kq ≤ kj29) ∧ Aside0 (wc.heap[gb155]? = some (.cells #[.int .i64 ((rd_T23 l0 x4_1).f0), .int .i64 ((rd_T23 l0 x4_1).f1), .int .i64 ((rd_T23 l0 x4_1).f2), .int .i64 ((rd_T23 l0 x4_1).f3), .string ((rd_T23 l0 x4_1).f4), .string ((rd_T23 l0 x4_1).f5), .bool ((rd_T23 l0 x4_1).f6), .int .i64 ((rd_T23 l0 x4_1).f7)] 23 (0, 0))) ∧ Aside0 (Below w.heap.size w wc))
            case first =>
             have H := HC38.out
             clear HC38
             by_cases c39 : x50_29 = true
             ·subst c39
              have H1 : (if x3_2.size + 3 ≤ 9223372036854775807 then (rivuletref23_Show.j3 kj29 l0 (x3_2 ++ (⟨#[32, 111, 110]⟩ : ByteArray)) x4_1 ((rd_T23 l0 x4_1).f0) ((rd_T23 l0 x4_1).f1) ((rd_T23 l0 x4_1).f2) ((rd_T23 l0 x4_1).f3) ((rd_T23 l0 x4_1).f4) ((rd_T23 l0 x4_1).f5) ((rd_T23 l0 x4_1).f6) ((rd_T23 l0 x4_1).f7)) else (none)) = some r := by rw [if_pos rfl] at H; exact H
              clear H
              have H := H1
              clear H1
              by_cases c40 : x3_2.size + 3 ≤ 9223372036854775807
              ·rw [if_pos c40] at H
               have c40b0 := eq_true c40
               have c40b1 : decide (x3_2.size + 3 ≤ 9223372036854775807) = true := decide_eq_true c40
               try have c40b2 : (9223372036854775807 < x3_2.size + 3) = False := eq_false (Nat.not_lt.2 c40)
               have H' := Aside0.mk H
               clear H
               go_wp2
               go_meet
               case rel => exact ⟨_, (x3_2 ++ (⟨#[32, 111, 110]⟩ : ByteArray)), (by first | rfl | (simp; done) | (simp [*]; done)), H', ⟨by have := HK1.out; have := HK2.out; have := HJ29.out; first | omega | exact Nat.le_refl _⟩, ⟨by (with_reducible repeat (first | refine blk_drewN ?_ _ | refine blk_drew ?_ | refine blk_alloc ?_ _)); exact BK155.out⟩, ⟨by repeat (first | (with_reducible first | exact HB.out | apply below_alloc | apply pw_below_drewN | apply below_drew1 | refine below_set ?_ GE155.out) | exact HB.out)⟩⟩
              ·rw [if_neg c40] at H
               exact absurd H (by simp)
             ·replace c39 := Bool.eq_false_iff.mpr c39
              subst c39
              have H1 : (rivuletref23_Show.j3 kj29 l0 x3_2 x4_1 ((rd_T23 l0 x4_1).f0) ((rd_T23 l0 x4_1).f1) ((rd_T23 l0 x4_1).f2) ((rd_T23 l0 x4_1).f3) ((rd_T23 l0 x4_1).f4) ((rd_T23 l0 x4_1).f5) ((rd_T23 l0 x4_1).f6) ((rd_T23 l0 x4_1).f7)) = some r := by rw [if_neg (show ¬ (false = true) by decide)] at H; exact H
              clear H
              have H := H1
              clear H1
              have H' := Aside0.mk H
              clear H
              go_wp2
              go_meet
              case rel => exact ⟨_, (x3_2), (by first | rfl | (simp; done) | (simp [*]; done)), H', ⟨by have := HK1.out; have := HK2.out; have := HJ29.out; first | omega | exact Nat.le_refl _⟩, ⟨by (with_reducible repeat (first | refine blk_drewN ?_ _ | refine blk_drew ?_ | refine blk_alloc ?_ _)); exact BK155.out⟩, ⟨by repeat (first | (with_reducible first | exact HB.out | apply below_alloc | apply pw_below_drewN | apply below_drew1 | refine below_set ?_ GE155.out) | exact HB.out)⟩⟩
            case rest =>
             clear HC38
             try clear c1
             try clear p1
             try clear q1
             try clear hx1
             try clear c2
             try clear c2b0
             try clear p2
             try clear c3
             try clear c3b0
             try clear c4
             try clear c5
             try clear p6
             try clear c7
             try clear c7b0
             try clear c7b1
             try clear c7b2
             try clear c12
             try clear p15
             try clear q15
             try clear hx15
             try clear c16
             try clear c16b0
             try clear p16
             try clear q16
             try clear hx16
             try clear c18
             try clear c19
             try clear c19b0
             try clear c20
             try clear c20b0
             try clear c22
             try clear c22b0
             try clear c22b1
             try clear c22b2
             try clear c23
             try clear c23b0
             try clear c23b1
             try clear c23b2
             try clear c32
             try clear c39
             try clear c40
             try clear c40b0
             try clear c40b1
             try clear c40b2
             try clear hcz10_0
             try clear hcz10_1
             try clear hcz10_2
             try clear hcz10_3
             try clear hcz10_4
             try clear hcz10_5
             try clear hcz10_6
             try clear hcz10_7
             try clear hcz12_0
             try clear hcz12_1
             try clear hcz12_2
             try clear hcz12_3
             try clear hcz12_4
             try clear hcz12_5
             try clear hcz12_6
             try clear hcz12_7
             try clear hcz14_0
             try clear hcz14_1
             try clear hcz14_2
             try clear hcz14_3
             try clear hcz14_4
             try clear hcz14_5
             try clear hcz14_6
             try clear hcz14_7
             try clear hcz24_0
             try clear hcz24_1
             try clear hcz24_2
             try clear hcz24_3
             try clear hcz24_4
             try clear hcz24_5
             try clear hcz24_6
             try clear hcz24_7
             try clear hcz28_0
             try clear hcz28_1
             try clear hcz28_2
             try clear hcz28_3
             try clear hcz28_4
             try clear hcz28_5
             try clear hcz28_6
             try clear hcz28_7
             try clear hcz33_0
             try clear hcz33_1
             try clear hcz33_2
             try clear hcz33_3
             try clear hcz33_4
             try clear hcz33_5
             try clear hcz33_6
             try clear hcz33_7
             try clear hcz35_0
             try clear hcz35_1
             try clear hcz35_2
             try clear hcz35_3
             try clear hcz35_4
             try clear hcz35_5
             try clear hcz35_6
             try clear hcz35_7
             try clear hcz36_0
             try clear hcz36_1
             try clear hcz36_2
             try clear hcz36_3
             try clear hcz36_4
             try clear hcz36_5
             try clear hcz36_6
             try clear hcz36_7
             try clear hfz10_0
             try clear hfz10_1
             try clear hfz10_2
             try clear hfz10_3
             try clear hfz10_4
             try clear hfz10_5
             try clear hfz10_6
             try clear hfz10_7
             try clear hfz12_0
             try clear hfz12_1
             try clear hfz12_2
             try clear hfz12_3
             try clear hfz12_4
             try clear hfz12_5
             try clear hfz12_6
             try clear hfz12_7
             try clear hfz14_0
             try clear hfz14_1
             try clear hfz14_2
             try clear hfz14_3
             try clear hfz14_4
             try clear hfz14_5
             try clear hfz14_6
             try clear hfz14_7
             try clear hfz24_0
             try clear hfz24_1
             try clear hfz24_2
             try clear hfz24_3
             try clear hfz24_4
             try clear hfz24_5
             try clear hfz24_6
             try clear hfz24_7
             try clear hfz28_0
             try clear hfz28_1
             try clear hfz28_2
             try clear hfz28_3
             try clear hfz28_4
             try clear hfz28_5
             try clear hfz28_6
             try clear hfz28_7
             try clear hfz33_0
             try clear hfz33_1
             try clear hfz33_2
             try clear hfz33_3
             try clear hfz33_4
             try clear hfz33_5
             try clear hfz33_6
             try clear hfz33_7
             try clear hfz35_0
             try clear hfz35_1
             try clear hfz35_2
             try clear hfz35_3
             try clear hfz35_4
             try clear hfz35_5
             try clear hfz35_6
             try clear hfz35_7
             try clear hfz36_0
             try clear hfz36_1
             try clear hfz36_2
             try clear hfz36_3
             try clear hfz36_4
             try clear hfz36_5
             try clear hfz36_6
             try clear hfz36_7
             try clear hx154_0
             try clear hx154_1
             try clear hx154_2
             try clear hx154_3
             try clear hx154_4
             try clear hx154_5
             try clear hx154_6
             try clear hx154_7
             try clear hx162_0
             try clear p1
             try clear p15
             try clear p154
             try clear p16
             try clear p162
             try clear p2
             try clear p6
             try clear q1
             try clear q15
             try clear q154
             try clear q16
             try clear q162
             obtain ⟨kq, x3_37, rfl, HA, HJ37, BK155, HB⟩ := hcut
             cases kq with
             | zero => exact absurd HA.out (by simp [rivuletref23_Show.j3])
             | succ kj37 =>
              have H := HA.out
              clear HA
              simp only [rivuletref23_Show.j3] at H
              have HC41 := Aside0.mk H
              clear H
              go_upto_region 16 with (fail)
              go_cut [60] (fun v60 wc => ∃ (kq : Nat) (x60_40 : Bool), v60 = .bool x60_40 ∧ Aside0 (rivuletref23_Show.j4 kq l0 x3_37 x4_1 x60_40 ((rd_T23 l0 x4_1).f0) ((rd_T23 l0 x4_1).f1) ((rd_T23 l0 x4_1).f2) ((rd_T23 l0 x4_1).f3) ((rd_T23 l0 x4_1).f4) ((rd_T23 l0 x4_1).f5) ((rd_T23 l0 x4_1).f6) ((rd_T23 l0 x4_1).f7) = some r) ∧ Aside0 (kq ≤ kj37) ∧ Aside0 (wc.heap[gb155]? = some (.cells #[.int .i64 ((rd_T23 l0 x4_1).f0), .int .i64 ((rd_T23 l0 x4_1).f1), .int .i64 ((rd_T23 l0 x4_1).f2), .int .i64 ((rd_T23 l0 x4_1).f3), .string ((rd_T23 l0 x4_1).f4), .string ((rd_T23 l0 x4_1).f5), .bool ((rd_T23 l0 x4_1).f6), .int .i64 ((rd_T23 l0 x4_1).f7)] 23 (0, 0))) ∧ Aside0 (Below w.heap.size w wc))
              case first =>
               have H := HC41.out
               clear HC41
               replace H := Option.bind_eq_some_iff.mp H
               obtain ⟨t165, A420, H⟩ := H
               replace H : (if t165 = true then (rivuletref23_Show.j4 kj37 l0 x3_37 x4_1 (!((rd_T23 l0 x4_1).f6)) ((rd_T23 l0 x4_1).f0) ((rd_T23 l0 x4_1).f1) ((rd_T23 l0 x4_1).f2) ((rd_T23 l0 x4_1).f3) ((rd_T23 l0 x4_1).f4) ((rd_T23 l0 x4_1).f5) ((rd_T23 l0 x4_1).f6) ((rd_T23 l0 x4_1).f7)) else (rivuletref23_Show.j4 kj37 l0 x3_37 x4_1 false ((rd_T23 l0 x4_1).f0) ((rd_T23 l0 x4_1).f1) ((rd_T23 l0 x4_1).f2) ((rd_T23 l0 x4_1).f3) ((rd_T23 l0 x4_1).f4) ((rd_T23 l0 x4_1).f5) ((rd_T23 l0 x4_1).f6) ((rd_T23 l0 x4_1).f7))) = some r := H
               have A42 := Aside0.mk A420
               clear A420
               by_cases c43 : t165 = true
               ·subst c43
                have H1 : (rivuletref23_Show.j4 kj37 l0 x3_37 x4_1 (!((rd_T23 l0 x4_1).f6)) ((rd_T23 l0 x4_1).f0) ((rd_T23 l0 x4_1).f1) ((rd_T23 l0 x4_1).f2) ((rd_T23 l0 x4_1).f3) ((rd_T23 l0 x4_1).f4) ((rd_T23 l0 x4_1).f5) ((rd_T23 l0 x4_1).f6) ((rd_T23 l0 x4_1).f7)) = some r := by rw [if_pos rfl] at H; exact H
                clear H
                have H := H1
                clear H1
                have H' := Aside0.mk H
                clear H
                have hcz44_0 : wc.cell? ⟨gb155, 0, none⟩ = some (.int .i64 ((rd_T23 l0 x4_1).f0)) := (blk_cell BK155.out 0).trans rfl
                have hcz44_1 : wc.cell? ⟨gb155, 1, none⟩ = some (.int .i64 ((rd_T23 l0 x4_1).f1)) := (blk_cell BK155.out 1).trans rfl
                have hcz44_2 : wc.cell? ⟨gb155, 2, none⟩ = some (.int .i64 ((rd_T23 l0 x4_1).f2)) := (blk_cell BK155.out 2).trans rfl
                have hcz44_3 : wc.cell? ⟨gb155, 3, none⟩ = some (.int .i64 ((rd_T23 l0 x4_1).f3)) := (blk_cell BK155.out 3).trans rfl
                have hcz44_4 : wc.cell? ⟨gb155, 4, none⟩ = some (.string ((rd_T23 l0 x4_1).f4)) := (blk_cell BK155.out 4).trans rfl
                have hcz44_5 : wc.cell? ⟨gb155, 5, none⟩ = some (.string ((rd_T23 l0 x4_1).f5)) := (blk_cell BK155.out 5).trans rfl
                have hcz44_6 : wc.cell? ⟨gb155, 6, none⟩ = some (.bool ((rd_T23 l0 x4_1).f6)) := (blk_cell BK155.out 6).trans rfl
                have hcz44_7 : wc.cell? ⟨gb155, 7, none⟩ = some (.int .i64 ((rd_T23 l0 x4_1).f7)) := (blk_cell BK155.out 7).trans rfl
                have hfz44_0 := blk_frozen BK155.out 0
                have hfz44_1 := blk_frozen BK155.out 1
                have hfz44_2 := blk_frozen BK155.out 2
                have hfz44_3 := blk_frozen BK155.out 3
                have hfz44_4 := blk_frozen BK155.out 4
                have hfz44_5 := blk_frozen BK155.out 5
                have hfz44_6 := blk_frozen BK155.out 6
                have hfz44_7 := blk_frozen BK155.out 7
                go_wp2_with (first | ((with_reducible refine gate_callee (f := 41) rfl ?_); refine goesL_ (some 55) rfl rfl Tryd.func41 (by kernel_rfl) rfl #[.int .i64 ((rd_T23 l0 x4_1).f0), .int .i64 4] rfl (by (try simp only [List.map_toArray, List.map_cons, List.map_nil]); first | done | rfl | (simp only [List.length_drop, List.length_take]; rfl)) ?_; (with_reducible refine (rivuletref23_Has.calls ((rd_T23 l0 x4_1).f0) 4 true _ A42.out).mono ?_); rintro e w45 ⟨rfl, hb⟩; refine ⟨_, rfl, ?_⟩; have n0_ := Aside0.mk (blk_below (g := gb155) (o := .cells #[.int .i64 ((rd_T23 l0 x4_1).f0), .int .i64 ((rd_T23 l0 x4_1).f1), .int .i64 ((rd_T23 l0 x4_1).f2), .int .i64 ((rd_T23 l0 x4_1).f3), .string ((rd_T23 l0 x4_1).f4), .string ((rd_T23 l0 x4_1).f5), .bool ((rd_T23 l0 x4_1).f6), .int .i64 ((rd_T23 l0 x4_1).f7)] 23 (0, 0)) (by (with_reducible repeat (first | refine blk_drewN ?_ _ | refine blk_drew ?_ | refine blk_alloc ?_ _)); exact BK155.out) hb); have n1_ := Aside0.mk (below_step (by repeat (first | (with_reducible first | exact HB.out | apply below_alloc | apply pw_below_drewN | apply below_drew1 | refine below_set ?_ GE155.out) | exact HB.out)) hb); clear BK155; clear HB; have BK155 := n0_; have HB := n1_; clear n0_ n1_; (try clear hb); (try clear hb2); (try clear hk); (try clear hi); have hcz46_0 : w45.cell? ⟨gb155, 0, none⟩ = some (.int .i64 ((rd_T23 l0 x4_1).f0)) := (blk_cell BK155.out 0).trans rfl; have hcz46_1 : w45.cell? ⟨gb155, 1, none⟩ = some (.int .i64 ((rd_T23 l0 x4_1).f1)) := (blk_cell BK155.out 1).trans rfl; have hcz46_2 : w45.cell? ⟨gb155, 2, none⟩ = some (.int .i64 ((rd_T23 l0 x4_1).f2)) := (blk_cell BK155.out 2).trans rfl; have hcz46_3 : w45.cell? ⟨gb155, 3, none⟩ = some (.int .i64 ((rd_T23 l0 x4_1).f3)) := (blk_cell BK155.out 3).trans rfl; have hcz46_4 : w45.cell? ⟨gb155, 4, none⟩ = some (.string ((rd_T23 l0 x4_1).f4)) := (blk_cell BK155.out 4).trans rfl; have hcz46_5 : w45.cell? ⟨gb155, 5, none⟩ = some (.string ((rd_T23 l0 x4_1).f5)) := (blk_cell BK155.out 5).trans rfl; have hcz46_6 : w45.cell? ⟨gb155, 6, none⟩ = some (.bool ((rd_T23 l0 x4_1).f6)) := (blk_cell BK155.out 6).trans rfl; have hcz46_7 : w45.cell? ⟨gb155, 7, none⟩ = some (.int .i64 ((rd_T23 l0 x4_1).f7)) := (blk_cell BK155.out 7).trans rfl; have hfz46_0 := blk_frozen BK155.out 0; have hfz46_1 := blk_frozen BK155.out 1; have hfz46_2 := blk_frozen BK155.out 2; have hfz46_3 := blk_frozen BK155.out 3; have hfz46_4 := blk_frozen BK155.out 4; have hfz46_5 := blk_frozen BK155.out 5; have hfz46_6 := blk_frozen BK155.out 6; have hfz46_7 := blk_frozen BK155.out 7))
                go_meet
                case rel => exact ⟨_, (!((rd_T23 l0 x4_1).f6)), (by first | rfl | (simp; done) | (simp [*]; done)), H', ⟨by have := HK1.out; have := HK2.out; have := HJ29.out; have := HJ37.out; first | omega | exact Nat.le_refl _⟩, ⟨by (with_reducible repeat (first | refine blk_drewN ?_ _ | refine blk_drew ?_ | refine blk_alloc ?_ _)); exact BK155.out⟩, ⟨by repeat (first | (with_reducible first | exact HB.out | apply below_alloc | apply pw_below_drewN | apply below_drew1 | refine below_set ?_ GE155.out) | exact HB.out)⟩⟩
               ·replace c43 := Bool.eq_false_iff.mpr c43
                subst c43
                have H1 : (rivuletref23_Show.j4 kj37 l0 x3_37 x4_1 false ((rd_T23 l0 x4_1).f0) ((rd_T23 l0 x4_1).f1) ((rd_T23 l0 x4_1).f2) ((rd_T23 l0 x4_1).f3) ((rd_T23 l0 x4_1).f4) ((rd_T23 l0 x4_1).f5) ((rd_T23 l0 x4_1).f6) ((rd_T23 l0 x4_1).f7)) = some r := by rw [if_neg (show ¬ (false = true) by decide)] at H; exact H
                clear H
                have H := H1
                clear H1
                have H' := Aside0.mk H
                clear H
                have hcz47_0 : wc.cell? ⟨gb155, 0, none⟩ = some (.int .i64 ((rd_T23 l0 x4_1).f0)) := (blk_cell BK155.out 0).trans rfl
                have hcz47_1 : wc.cell? ⟨gb155, 1, none⟩ = some (.int .i64 ((rd_T23 l0 x4_1).f1)) := (blk_cell BK155.out 1).trans rfl
                have hcz47_2 : wc.cell? ⟨gb155, 2, none⟩ = some (.int .i64 ((rd_T23 l0 x4_1).f2)) := (blk_cell BK155.out 2).trans rfl
                have hcz47_3 : wc.cell? ⟨gb155, 3, none⟩ = some (.int .i64 ((rd_T23 l0 x4_1).f3)) := (blk_cell BK155.out 3).trans rfl
                have hcz47_4 : wc.cell? ⟨gb155, 4, none⟩ = some (.string ((rd_T23 l0 x4_1).f4)) := (blk_cell BK155.out 4).trans rfl
                have hcz47_5 : wc.cell? ⟨gb155, 5, none⟩ = some (.string ((rd_T23 l0 x4_1).f5)) := (blk_cell BK155.out 5).trans rfl
                have hcz47_6 : wc.cell? ⟨gb155, 6, none⟩ = some (.bool ((rd_T23 l0 x4_1).f6)) := (blk_cell BK155.out 6).trans rfl
                have hcz47_7 : wc.cell? ⟨gb155, 7, none⟩ = some (.int .i64 ((rd_T23 l0 x4_1).f7)) := (blk_cell BK155.out 7).trans rfl
                have hfz47_0 := blk_frozen BK155.out 0
                have hfz47_1 := blk_frozen BK155.out 1
                have hfz47_2 := blk_frozen BK155.out 2
                have hfz47_3 := blk_frozen BK155.out 3
                have hfz47_4 := blk_frozen BK155.out 4
                have hfz47_5 := blk_frozen BK155.out 5
                have hfz47_6 := blk_frozen BK155.out 6
                have hfz47_7 := blk_frozen BK155.out 7
                go_wp2_with (first | ((with_reducible refine gate_callee (f := 41) rfl ?_); refine goesL_ (some 55) rfl rfl Tryd.func41 (by kernel_rfl) rfl #[.int .i64 ((rd_T23 l0 x4_1).f0), .int .i64 4] rfl (by (try simp only [List.map_toArray, List.map_cons, List.map_nil]); first | done | rfl | (simp only [List.length_drop, List.length_take]; rfl)) ?_; (with_reducible refine (rivuletref23_Has.calls ((rd_T23 l0 x4_1).f0) 4 false _ A42.out).mono ?_); rintro e w48 ⟨rfl, hb⟩; refine ⟨_, rfl, ?_⟩; have n0_ := Aside0.mk (blk_below (g := gb155) (o := .cells #[.int .i64 ((rd_T23 l0 x4_1).f0), .int .i64 ((rd_T23 l0 x4_1).f1), .int .i64 ((rd_T23 l0 x4_1).f2), .int .i64 ((rd_T23 l0 x4_1).f3), .string ((rd_T23 l0 x4_1).f4), .string ((rd_T23 l0 x4_1).f5), .bool ((rd_T23 l0 x4_1).f6), .int .i64 ((rd_T23 l0 x4_1).f7)] 23 (0, 0)) (by (with_reducible repeat (first | refine blk_drewN ?_ _ | refine blk_drew ?_ | refine blk_alloc ?_ _)); exact BK155.out) hb); have n1_ := Aside0.mk (below_step (by repeat (first | (with_reducible first | exact HB.out | apply below_alloc | apply pw_below_drewN | apply below_drew1 | refine below_set ?_ GE155.out) | exact HB.out)) hb); clear BK155; clear HB; have BK155 := n0_; have HB := n1_; clear n0_ n1_; (try clear hb); (try clear hb2); (try clear hk); (try clear hi)))
                go_meet
                case rel => exact ⟨_, (false), (by first | rfl | (simp; done) | (simp [*]; done)), H', ⟨by have := HK1.out; have := HK2.out; have := HJ29.out; have := HJ37.out; first | omega | exact Nat.le_refl _⟩, ⟨by (with_reducible repeat (first | refine blk_drewN ?_ _ | refine blk_drew ?_ | refine blk_alloc ?_ _)); exact BK155.out⟩, ⟨by repeat (first | (with_reducible first | exact HB.out | apply below_alloc | apply pw_below_drewN | apply below_drew1 | refine below_set ?_ GE155.out) | exact HB.out)⟩⟩
              case rest =>
               clear HC41
               try clear c1
               try clear p1
               try clear q1
               try clear hx1
               try clear c2
               try clear c2b0
               try clear p2
               try clear c3
               try clear c3b0
               try clear c4
               try clear c5
               try clear p6
               try clear c7
               try clear c7b0
               try clear c7b1
               try clear c7b2
               try clear c12
               try clear p15
               try clear q15
               try clear hx15
               try clear c16
               try clear c16b0
               try clear p16
               try clear q16
               try clear hx16
               try clear c18
               try clear c19
               try clear c19b0
               try clear c20
               try clear c20b0
               try clear c22
               try clear c22b0
               try clear c22b1
               try clear c22b2
               try clear c23
               try clear c23b0
               try clear c23b1
               try clear c23b2
               try clear c32
               try clear c39
               try clear c40
               try clear c40b0
               try clear c40b1
               try clear c40b2
               try clear c41
               try clear c43
               try clear hcz10_0
               try clear hcz10_1
               try clear hcz10_2
               try clear hcz10_3
               try clear hcz10_4
               try clear hcz10_5
               try clear hcz10_6
               try clear hcz10_7
               try clear hcz12_0
               try clear hcz12_1
               try clear hcz12_2
               try clear hcz12_3
               try clear hcz12_4
               try clear hcz12_5
               try clear hcz12_6
               try clear hcz12_7
               try clear hcz14_0
               try clear hcz14_1
               try clear hcz14_2
               try clear hcz14_3
               try clear hcz14_4
               try clear hcz14_5
               try clear hcz14_6
               try clear hcz14_7
               try clear hcz24_0
               try clear hcz24_1
               try clear hcz24_2
               try clear hcz24_3
               try clear hcz24_4
               try clear hcz24_5
               try clear hcz24_6
               try clear hcz24_7
               try clear hcz28_0
               try clear hcz28_1
               try clear hcz28_2
               try clear hcz28_3
               try clear hcz28_4
               try clear hcz28_5
               try clear hcz28_6
               try clear hcz28_7
               try clear hcz33_0
               try clear hcz33_1
               try clear hcz33_2
               try clear hcz33_3
               try clear hcz33_4
               try clear hcz33_5
               try clear hcz33_6
               try clear hcz33_7
               try clear hcz35_0
               try clear hcz35_1
               try clear hcz35_2
               try clear hcz35_3
               try clear hcz35_4
               try clear hcz35_5
               try clear hcz35_6
               try clear hcz35_7
               try clear hcz36_0
               try clear hcz36_1
               try clear hcz36_2
               try clear hcz36_3
               try clear hcz36_4
               try clear hcz36_5
               try clear hcz36_6
               try clear hcz36_7
               try clear hcz44_0
               try clear hcz44_1
               try clear hcz44_2
               try clear hcz44_3
               try clear hcz44_4
               try clear hcz44_5
               try clear hcz44_6
               try clear hcz44_7
               try clear hcz46_0
               try clear hcz46_1
               try clear hcz46_2
               try clear hcz46_3
               try clear hcz46_4
               try clear hcz46_5
               try clear hcz46_6
               try clear hcz46_7
               try clear hcz47_0
               try clear hcz47_1
               try clear hcz47_2
               try clear hcz47_3
               try clear hcz47_4
               try clear hcz47_5
               try clear hcz47_6
               try clear hcz47_7
               try clear hfz10_0
               try clear hfz10_1
               try clear hfz10_2
               try clear hfz10_3
               try clear hfz10_4
               try clear hfz10_5
               try clear hfz10_6
               try clear hfz10_7
               try clear hfz12_0
               try clear hfz12_1
               try clear hfz12_2
               try clear hfz12_3
               try clear hfz12_4
               try clear hfz12_5
               try clear hfz12_6
               try clear hfz12_7
               try clear hfz14_0
               try clear hfz14_1
               try clear hfz14_2
               try clear hfz14_3
               try clear hfz14_4
               try clear hfz14_5
               try clear hfz14_6
               try clear hfz14_7
               try clear hfz24_0
               try clear hfz24_1
               try clear hfz24_2
               try clear hfz24_3
               try clear hfz24_4
               try clear hfz24_5
               try clear hfz24_6
               try clear hfz24_7
               try clear hfz28_0
               try clear hfz28_1
               try clear hfz28_2
               try clear hfz28_3
               try clear hfz28_4
               try clear hfz28_5
               try clear hfz28_6
               try clear hfz28_7
               try clear hfz33_0
               try clear hfz33_1
               try clear hfz33_2
               try clear hfz33_3
               try clear hfz33_4
               try clear hfz33_5
               try clear hfz33_6
               try clear hfz33_7
               try clear hfz35_0
               try clear hfz35_1
               try clear hfz35_2
               try clear hfz35_3
               try clear hfz35_4
               try clear hfz35_5
               try clear hfz35_6
               try clear hfz35_7
               try clear hfz36_0
               try clear hfz36_1
               try clear hfz36_2
               try clear hfz36_3
               try clear hfz36_4
               try clear hfz36_5
               try clear hfz36_6
               try clear hfz36_7
               try clear hfz44_0
               try clear hfz44_1
               try clear hfz44_2
               try clear hfz44_3
               try clear hfz44_4
               try clear hfz44_5
               try clear hfz44_6
               try clear hfz44_7
               try clear hfz46_0
               try clear hfz46_1
               try clear hfz46_2
               try clear hfz46_3
               try clear hfz46_4
               try clear hfz46_5
               try clear hfz46_6
               try clear hfz46_7
               try clear hfz47_0
               try clear hfz47_1
               try clear hfz47_2
               try clear hfz47_3
               try clear hfz47_4
               try clear hfz47_5
               try clear hfz47_6
               try clear hfz47_7
               try clear hx154_0
               try clear hx154_1
               try clear hx154_2
               try clear hx154_3
               try clear hx154_4
               try clear hx154_5
               try clear hx154_6
               try clear hx154_7
               try clear hx162_0
               try clear p1
               try clear p15
               try clear p154
               try clear p16
               try clear p162
               try clear p2
               try clear p6
               try clear q1
               try clear q15
               try clear q154
               try clear q16
               try clear q162
               obtain ⟨kq, x60_40, rfl, HA, HJ40, BK155, HB⟩ := hcut
               cases kq with
               | zero => exact absurd HA.out (by simp [rivuletref23_Show.j4])
               | succ kj40 =>
                have H := HA.out
                clear HA
                simp only [rivuletref23_Show.j4] at H
                have HC49 := Aside0.mk H
                clear H
                go_upto_if 60 with (fail)
                go_cut [3] (fun v3 wc => ∃ (kq : Nat) (x3_48 : ByteArray), v3 = .string x3_48 ∧ Aside0 (rivuletref23_Show.j5 kq l0 x3_48 x4_1 ((rd_T23 l0 x4_1).f0) ((rd_T23 l0 x4_1).f1) ((rd_T23 l0 x4_1).f2) ((rd_T23 l0 x4_1).f3) ((rd_T23 l0 x4_1).f4) ((rd_T23 l0 x4_1).f5) ((rd_T23 l0 x4_1).f6) ((rd_T23 l0 x4_1).f7) = some r) ∧ Aside0 (kq ≤ kj40) ∧ Aside0 (wc.heap[gb155]? = some (.cells #[.int .i64 ((rd_T23 l0 x4_1).f0), .int .i64 ((rd_T23 l0 x4_1).f1), .int .i64 ((rd_T23 l0 x4_1).f2), .int .i64 ((rd_T23 l0 x4_1).f3), .string ((rd_T23 l0 x4_1).f4), .string ((rd_T23 l0 x4_1).f5), .bool ((rd_T23 l0 x4_1).f6), .int .i64 ((rd_T23 l0 x4_1).f7)] 23 (0, 0))) ∧ Aside0 (Below w.heap.size w wc))
                case first =>
                 have H := HC49.out
                 clear HC49
                 by_cases c50 : x60_40 = true
                 ·subst c50
                  have H1 : (if x3_37.size + 4 ≤ 9223372036854775807 then (rivuletref23_Show.j5 kj40 l0 (x3_37 ++ (⟨#[32, 111, 102, 102]⟩ : ByteArray)) x4_1 ((rd_T23 l0 x4_1).f0) ((rd_T23 l0 x4_1).f1) ((rd_T23 l0 x4_1).f2) ((rd_T23 l0 x4_1).f3) ((rd_T23 l0 x4_1).f4) ((rd_T23 l0 x4_1).f5) ((rd_T23 l0 x4_1).f6) ((rd_T23 l0 x4_1).f7)) else (none)) = some r := by rw [if_pos rfl] at H; exact H
                  clear H
                  have H := H1
                  clear H1
                  by_cases c51 : x3_37.size + 4 ≤ 9223372036854775807
                  ·rw [if_pos c51] at H
                   have c51b0 := eq_true c51
                   have c51b1 : decide (x3_37.size + 4 ≤ 9223372036854775807) = true := decide_eq_true c51
                   try have c51b2 : (9223372036854775807 < x3_37.size + 4) = False := eq_false (Nat.not_lt.2 c51)
                   have H' := Aside0.mk H
                   clear H
                   go_wp2
                   go_meet
                   case rel => exact ⟨_, (x3_37 ++ (⟨#[32, 111, 102, 102]⟩ : ByteArray)), (by first | rfl | (simp; done) | (simp [*]; done)), H', ⟨by have := HK1.out; have := HK2.out; have := HJ29.out; have := HJ37.out; have := HJ40.out; first | omega | exact Nat.le_refl _⟩, ⟨by (with_reducible repeat (first | refine blk_drewN ?_ _ | refine blk_drew ?_ | refine blk_alloc ?_ _)); exact BK155.out⟩, ⟨by repeat (first | (with_reducible first | exact HB.out | apply below_alloc | apply pw_below_drewN | apply below_drew1 | refine below_set ?_ GE155.out) | exact HB.out)⟩⟩
                  ·rw [if_neg c51] at H
                   exact absurd H (by simp)
                 ·replace c50 := Bool.eq_false_iff.mpr c50
                  subst c50
                  have H1 : (rivuletref23_Show.j5 kj40 l0 x3_37 x4_1 ((rd_T23 l0 x4_1).f0) ((rd_T23 l0 x4_1).f1) ((rd_T23 l0 x4_1).f2) ((rd_T23 l0 x4_1).f3) ((rd_T23 l0 x4_1).f4) ((rd_T23 l0 x4_1).f5) ((rd_T23 l0 x4_1).f6) ((rd_T23 l0 x4_1).f7)) = some r := by rw [if_neg (show ¬ (false = true) by decide)] at H; exact H
                  clear H
                  have H := H1
                  clear H1
                  have H' := Aside0.mk H
                  clear H
                  go_wp2
                  go_meet
                  case rel => exact ⟨_, (x3_37), (by first | rfl | (simp; done) | (simp [*]; done)), H', ⟨by have := HK1.out; have := HK2.out; have := HJ29.out; have := HJ37.out; have := HJ40.out; first | omega | exact Nat.le_refl _⟩, ⟨by (with_reducible repeat (first | refine blk_drewN ?_ _ | refine blk_drew ?_ | refine blk_alloc ?_ _)); exact BK155.out⟩, ⟨by repeat (first | (with_reducible first | exact HB.out | apply below_alloc | apply pw_below_drewN | apply below_drew1 | refine below_set ?_ GE155.out) | exact HB.out)⟩⟩
                case rest =>
                 clear HC49
                 try clear c1
                 try clear p1
                 try clear q1
                 try clear hx1
                 try clear c2
                 try clear c2b0
                 try clear p2
                 try clear c3
                 try clear c3b0
                 try clear c4
                 try clear c5
                 try clear p6
                 try clear c7
                 try clear c7b0
                 try clear c7b1
                 try clear c7b2
                 try clear c12
                 try clear p15
                 try clear q15
                 try clear hx15
                 try clear c16
                 try clear c16b0
                 try clear p16
                 try clear q16
                 try clear hx16
                 try clear c18
                 try clear c19
                 try clear c19b0
                 try clear c20
                 try clear c20b0
                 try clear c22
                 try clear c22b0
                 try clear c22b1
                 try clear c22b2
                 try clear c23
                 try clear c23b0
                 try clear c23b1
                 try clear c23b2
                 try clear c32
                 try clear c39
                 try clear c40
                 try clear c40b0
                 try clear c40b1
                 try clear c40b2
                 try clear c41
                 try clear c43
                 try clear c50
                 try clear c51
                 try clear c51b0
                 try clear c51b1
                 try clear c51b2
                 try clear hcz10_0
                 try clear hcz10_1
                 try clear hcz10_2
                 try clear hcz10_3
                 try clear hcz10_4
                 try clear hcz10_5
                 try clear hcz10_6
                 try clear hcz10_7
                 try clear hcz12_0
                 try clear hcz12_1
                 try clear hcz12_2
                 try clear hcz12_3
                 try clear hcz12_4
                 try clear hcz12_5
                 try clear hcz12_6
                 try clear hcz12_7
                 try clear hcz14_0
                 try clear hcz14_1
                 try clear hcz14_2
                 try clear hcz14_3
                 try clear hcz14_4
                 try clear hcz14_5
                 try clear hcz14_6
                 try clear hcz14_7
                 try clear hcz24_0
                 try clear hcz24_1
                 try clear hcz24_2
                 try clear hcz24_3
                 try clear hcz24_4
                 try clear hcz24_5
                 try clear hcz24_6
                 try clear hcz24_7
                 try clear hcz28_0
                 try clear hcz28_1
                 try clear hcz28_2
                 try clear hcz28_3
                 try clear hcz28_4
                 try clear hcz28_5
                 try clear hcz28_6
                 try clear hcz28_7
                 try clear hcz33_0
                 try clear hcz33_1
                 try clear hcz33_2
                 try clear hcz33_3
                 try clear hcz33_4
                 try clear hcz33_5
                 try clear hcz33_6
                 try clear hcz33_7
                 try clear hcz35_0
                 try clear hcz35_1
                 try clear hcz35_2
                 try clear hcz35_3
                 try clear hcz35_4
                 try clear hcz35_5
                 try clear hcz35_6
                 try clear hcz35_7
                 try clear hcz36_0
                 try clear hcz36_1
                 try clear hcz36_2
                 try clear hcz36_3
                 try clear hcz36_4
                 try clear hcz36_5
                 try clear hcz36_6
                 try clear hcz36_7
                 try clear hcz44_0
                 try clear hcz44_1
                 try clear hcz44_2
                 try clear hcz44_3
                 try clear hcz44_4
                 try clear hcz44_5
                 try clear hcz44_6
                 try clear hcz44_7
                 try clear hcz46_0
                 try clear hcz46_1
                 try clear hcz46_2
                 try clear hcz46_3
                 try clear hcz46_4
                 try clear hcz46_5
                 try clear hcz46_6
                 try clear hcz46_7
                 try clear hcz47_0
                 try clear hcz47_1
                 try clear hcz47_2
                 try clear hcz47_3
                 try clear hcz47_4
                 try clear hcz47_5
                 try clear hcz47_6
                 try clear hcz47_7
                 try clear hfz10_0
                 try clear hfz10_1
                 try clear hfz10_2
                 try clear hfz10_3
                 try clear hfz10_4
                 try clear hfz10_5
                 try clear hfz10_6
                 try clear hfz10_7
                 try clear hfz12_0
                 try clear hfz12_1
                 try clear hfz12_2
                 try clear hfz12_3
                 try clear hfz12_4
                 try clear hfz12_5
                 try clear hfz12_6
                 try clear hfz12_7
                 try clear hfz14_0
                 try clear hfz14_1
                 try clear hfz14_2
                 try clear hfz14_3
                 try clear hfz14_4
                 try clear hfz14_5
                 try clear hfz14_6
                 try clear hfz14_7
                 try clear hfz24_0
                 try clear hfz24_1
                 try clear hfz24_2
                 try clear hfz24_3
                 try clear hfz24_4
                 try clear hfz24_5
                 try clear hfz24_6
                 try clear hfz24_7
                 try clear hfz28_0
                 try clear hfz28_1
                 try clear hfz28_2
                 try clear hfz28_3
                 try clear hfz28_4
                 try clear hfz28_5
                 try clear hfz28_6
                 try clear hfz28_7
                 try clear hfz33_0
                 try clear hfz33_1
                 try clear hfz33_2
                 try clear hfz33_3
                 try clear hfz33_4
                 try clear hfz33_5
                 try clear hfz33_6
                 try clear hfz33_7
                 try clear hfz35_0
                 try clear hfz35_1
                 try clear hfz35_2
                 try clear hfz35_3
                 try clear hfz35_4
                 try clear hfz35_5
                 try clear hfz35_6
                 try clear hfz35_7
                 try clear hfz36_0
                 try clear hfz36_1
                 try clear hfz36_2
                 try clear hfz36_3
                 try clear hfz36_4
                 try clear hfz36_5
                 try clear hfz36_6
                 try clear hfz36_7
                 try clear hfz44_0
                 try clear hfz44_1
                 try clear hfz44_2
                 try clear hfz44_3
                 try clear hfz44_4
                 try clear hfz44_5
                 try clear hfz44_6
                 try clear hfz44_7
                 try clear hfz46_0
                 try clear hfz46_1
                 try clear hfz46_2
                 try clear hfz46_3
                 try clear hfz46_4
                 try clear hfz46_5
                 try clear hfz46_6
                 try clear hfz46_7
                 try clear hfz47_0
                 try clear hfz47_1
                 try clear hfz47_2
                 try clear hfz47_3
                 try clear hfz47_4
                 try clear hfz47_5
                 try clear hfz47_6
                 try clear hfz47_7
                 try clear hx154_0
                 try clear hx154_1
                 try clear hx154_2
                 try clear hx154_3
                 try clear hx154_4
                 try clear hx154_5
                 try clear hx154_6
                 try clear hx154_7
                 try clear hx162_0
                 try clear p1
                 try clear p15
                 try clear p154
                 try clear p16
                 try clear p162
                 try clear p2
                 try clear p6
                 try clear q1
                 try clear q15
                 try clear q154
                 try clear q16
                 try clear q162
                 obtain ⟨kq, x3_48, rfl, HA, HJ48, BK155, HB⟩ := hcut
                 cases kq with
                 | zero => exact absurd HA.out (by simp [rivuletref23_Show.j5])
                 | succ kj48 =>
                  have H := HA.out
                  clear HA
                  simp only [rivuletref23_Show.j5] at H
                  replace H := Option.bind_eq_some_iff.mp H
                  obtain ⟨t166, A520, H⟩ := H
                  replace H : (if t166 = true then (if 1 + ((rd_T23 l0 x4_1).f4).size ≤ 9223372036854775807 then (if x3_48.size + ((⟨#[32]⟩ : ByteArray) ++ ((rd_T23 l0 x4_1).f4)).size ≤ 9223372036854775807 then (rivuletref23_Show.j6 kj48 l0 (x3_48 ++ ((⟨#[32]⟩ : ByteArray) ++ ((rd_T23 l0 x4_1).f4))) x4_1 ((rd_T23 l0 x4_1).f0) ((rd_T23 l0 x4_1).f1) ((rd_T23 l0 x4_1).f2) ((rd_T23 l0 x4_1).f3) ((rd_T23 l0 x4_1).f4) ((rd_T23 l0 x4_1).f5) ((rd_T23 l0 x4_1).f6) ((rd_T23 l0 x4_1).f7)) else (none)) else (none)) else (rivuletref23_Show.j6 kj48 l0 x3_48 x4_1 ((rd_T23 l0 x4_1).f0) ((rd_T23 l0 x4_1).f1) ((rd_T23 l0 x4_1).f2) ((rd_T23 l0 x4_1).f3) ((rd_T23 l0 x4_1).f4) ((rd_T23 l0 x4_1).f5) ((rd_T23 l0 x4_1).f6) ((rd_T23 l0 x4_1).f7))) = some r := H
                  have A52 := Aside0.mk A520
                  clear A520
                  have HC53 := Aside0.mk H
                  clear H
                  have hcz54_0 : wc.cell? ⟨gb155, 0, none⟩ = some (.int .i64 ((rd_T23 l0 x4_1).f0)) := (blk_cell BK155.out 0).trans rfl
                  have hcz54_1 : wc.cell? ⟨gb155, 1, none⟩ = some (.int .i64 ((rd_T23 l0 x4_1).f1)) := (blk_cell BK155.out 1).trans rfl
                  have hcz54_2 : wc.cell? ⟨gb155, 2, none⟩ = some (.int .i64 ((rd_T23 l0 x4_1).f2)) := (blk_cell BK155.out 2).trans rfl
                  have hcz54_3 : wc.cell? ⟨gb155, 3, none⟩ = some (.int .i64 ((rd_T23 l0 x4_1).f3)) := (blk_cell BK155.out 3).trans rfl
                  have hcz54_4 : wc.cell? ⟨gb155, 4, none⟩ = some (.string ((rd_T23 l0 x4_1).f4)) := (blk_cell BK155.out 4).trans rfl
                  have hcz54_5 : wc.cell? ⟨gb155, 5, none⟩ = some (.string ((rd_T23 l0 x4_1).f5)) := (blk_cell BK155.out 5).trans rfl
                  have hcz54_6 : wc.cell? ⟨gb155, 6, none⟩ = some (.bool ((rd_T23 l0 x4_1).f6)) := (blk_cell BK155.out 6).trans rfl
                  have hcz54_7 : wc.cell? ⟨gb155, 7, none⟩ = some (.int .i64 ((rd_T23 l0 x4_1).f7)) := (blk_cell BK155.out 7).trans rfl
                  have hfz54_0 := blk_frozen BK155.out 0
                  have hfz54_1 := blk_frozen BK155.out 1
                  have hfz54_2 := blk_frozen BK155.out 2
                  have hfz54_3 := blk_frozen BK155.out 3
                  have hfz54_4 := blk_frozen BK155.out 4
                  have hfz54_5 := blk_frozen BK155.out 5
                  have hfz54_6 := blk_frozen BK155.out 6
                  have hfz54_7 := blk_frozen BK155.out 7
                  go_upto_if 65 with (first | ((with_reducible refine gate_callee (f := 41) rfl ?_); refine goesL_ (some 65) rfl rfl Tryd.func41 (by kernel_rfl) rfl #[.int .i64 ((rd_T23 l0 x4_1).f0), .int .i64 5] rfl (by (try simp only [List.map_toArray, List.map_cons, List.map_nil]); first | done | rfl | (simp only [List.length_drop, List.length_take]; rfl)) ?_; (with_reducible refine (rivuletref23_Has.calls ((rd_T23 l0 x4_1).f0) 5 t166 _ A52.out).mono ?_); rintro e w55 ⟨rfl, hb⟩; refine ⟨_, rfl, ?_⟩; have n0_ := Aside0.mk (blk_below (g := gb155) (o := .cells #[.int .i64 ((rd_T23 l0 x4_1).f0), .int .i64 ((rd_T23 l0 x4_1).f1), .int .i64 ((rd_T23 l0 x4_1).f2), .int .i64 ((rd_T23 l0 x4_1).f3), .string ((rd_T23 l0 x4_1).f4), .string ((rd_T23 l0 x4_1).f5), .bool ((rd_T23 l0 x4_1).f6), .int .i64 ((rd_T23 l0 x4_1).f7)] 23 (0, 0)) (by (with_reducible repeat (first | refine blk_drewN ?_ _ | refine blk_drew ?_ | refine blk_alloc ?_ _)); exact BK155.out) hb); have n1_ := Aside0.mk (below_step (by repeat (first | (with_reducible first | exact HB.out | apply below_alloc | apply pw_below_drewN | apply below_drew1 | refine below_set ?_ GE155.out) | exact HB.out)) hb); clear BK155; clear HB; have BK155 := n0_; have HB := n1_; clear n0_ n1_; (try clear hb); (try clear hb2); (try clear hk); (try clear hi)))
                  (try simp only [Act.put, List.setIfInBounds_toArray, List.set_cons_zero, List.set_cons_succ])
                  go_cut [3] (fun v3 wc => ∃ (kq : Nat) (x3_52 : ByteArray), v3 = .string x3_52 ∧ Aside0 (rivuletref23_Show.j6 kq l0 x3_52 x4_1 ((rd_T23 l0 x4_1).f0) ((rd_T23 l0 x4_1).f1) ((rd_T23 l0 x4_1).f2) ((rd_T23 l0 x4_1).f3) ((rd_T23 l0 x4_1).f4) ((rd_T23 l0 x4_1).f5) ((rd_T23 l0 x4_1).f6) ((rd_T23 l0 x4_1).f7) = some r) ∧ Aside0 (kq ≤ kj48) ∧ Aside0 (wc.heap[gb155]? = some (.cells #[.int .i64 ((rd_T23 l0 x4_1).f0), .int .i64 ((rd_T23 l0 x4_1).f1), .int .i64 ((rd_T23 l0 x4_1).f2), .int .i64 ((rd_T23 l0 x4_1).f3), .string ((rd_T23 l0 x4_1).f4), .string ((rd_T23 l0 x4_1).f5), .bool ((rd_T23 l0 x4_1).f6), .int .i64 ((rd_T23 l0 x4_1).f7)] 23 (0, 0))) ∧ Aside0 (Below w.heap.size w wc))
                  case first =>
                   have H := HC53.out
                   clear HC53
                   by_cases c56 : t166 = true
                   ·subst c56
                    have H1 : (if 1 + ((rd_T23 l0 x4_1).f4).size ≤ 9223372036854775807 then (if x3_48.size + ((⟨#[32]⟩ : ByteArray) ++ ((rd_T23 l0 x4_1).f4)).size ≤ 9223372036854775807 then (rivuletref23_Show.j6 kj48 l0 (x3_48 ++ ((⟨#[32]⟩ : ByteArray) ++ ((rd_T23 l0 x4_1).f4))) x4_1 ((rd_T23 l0 x4_1).f0) ((rd_T23 l0 x4_1).f1) ((rd_T23 l0 x4_1).f2) ((rd_T23 l0 x4_1).f3) ((rd_T23 l0 x4_1).f4) ((rd_T23 l0 x4_1).f5) ((rd_T23 l0 x4_1).f6) ((rd_T23 l0 x4_1).f7)) else (none)) else (none)) = some r := by rw [if_pos rfl] at H; exact H
                    clear H
                    have H := H1
                    clear H1
                    by_cases c57 : 1 + ((rd_T23 l0 x4_1).f4).size ≤ 9223372036854775807
                    ·rw [if_pos c57] at H
                     have c57b0 := eq_true c57
                     have c57b1 : decide (1 + ((rd_T23 l0 x4_1).f4).size ≤ 9223372036854775807) = true := decide_eq_true c57
                     try have c57b2 : (9223372036854775807 < 1 + ((rd_T23 l0 x4_1).f4).size) = False := eq_false (Nat.not_lt.2 c57)
                     by_cases c58 : x3_48.size + ((⟨#[32]⟩ : ByteArray) ++ ((rd_T23 l0 x4_1).f4)).size ≤ 9223372036854775807
                     ·rw [if_pos c58] at H
                      have c58b0 := eq_true c58
                      (try (have c58z0 := eq_true c58; simp only [ByteArray.size_append, show (⟨#[32]⟩ : ByteArray).size = 1 from rfl] at c58z0))
                      (try (have c58z1 := eq_false (Nat.not_lt.2 c58); simp only [ByteArray.size_append, show (⟨#[32]⟩ : ByteArray).size = 1 from rfl] at c58z1))
                      have c58b1 : decide (x3_48.size + ((⟨#[32]⟩ : ByteArray) ++ ((rd_T23 l0 x4_1).f4)).size ≤ 9223372036854775807) = true := decide_eq_true c58
                      try have c58b2 : (9223372036854775807 < x3_48.size + ((⟨#[32]⟩ : ByteArray) ++ ((rd_T23 l0 x4_1).f4)).size) = False := eq_false (Nat.not_lt.2 c58)
                      have H' := Aside0.mk H
                      clear H
                      have hcz59_0 : w55.cell? ⟨gb155, 0, none⟩ = some (.int .i64 ((rd_T23 l0 x4_1).f0)) := (blk_cell BK155.out 0).trans rfl
                      have hcz59_1 : w55.cell? ⟨gb155, 1, none⟩ = some (.int .i64 ((rd_T23 l0 x4_1).f1)) := (blk_cell BK155.out 1).trans rfl
                      have hcz59_2 : w55.cell? ⟨gb155, 2, none⟩ = some (.int .i64 ((rd_T23 l0 x4_1).f2)) := (blk_cell BK155.out 2).trans rfl
                      have hcz59_3 : w55.cell? ⟨gb155, 3, none⟩ = some (.int .i64 ((rd_T23 l0 x4_1).f3)) := (blk_cell BK155.out 3).trans rfl
                      have hcz59_4 : w55.cell? ⟨gb155, 4, none⟩ = some (.string ((rd_T23 l0 x4_1).f4)) := (blk_cell BK155.out 4).trans rfl
                      have hcz59_5 : w55.cell? ⟨gb155, 5, none⟩ = some (.string ((rd_T23 l0 x4_1).f5)) := (blk_cell BK155.out 5).trans rfl
                      have hcz59_6 : w55.cell? ⟨gb155, 6, none⟩ = some (.bool ((rd_T23 l0 x4_1).f6)) := (blk_cell BK155.out 6).trans rfl
                      have hcz59_7 : w55.cell? ⟨gb155, 7, none⟩ = some (.int .i64 ((rd_T23 l0 x4_1).f7)) := (blk_cell BK155.out 7).trans rfl
                      have hfz59_0 := blk_frozen BK155.out 0
                      have hfz59_1 := blk_frozen BK155.out 1
                      have hfz59_2 := blk_frozen BK155.out 2
                      have hfz59_3 := blk_frozen BK155.out 3
                      have hfz59_4 := blk_frozen BK155.out 4
                      have hfz59_5 := blk_frozen BK155.out 5
                      have hfz59_6 := blk_frozen BK155.out 6
                      have hfz59_7 := blk_frozen BK155.out 7
                      go_wp2
                      go_meet
                      case rel => exact ⟨_, (x3_48 ++ ((⟨#[32]⟩ : ByteArray) ++ ((rd_T23 l0 x4_1).f4))), (by first | rfl | (simp; done) | (simp [*]; done)), H', ⟨by have := HK1.out; have := HK2.out; have := HJ29.out; have := HJ37.out; have := HJ40.out; have := HJ48.out; first | omega | exact Nat.le_refl _⟩, ⟨by (with_reducible repeat (first | refine blk_drewN ?_ _ | refine blk_drew ?_ | refine blk_alloc ?_ _)); exact BK155.out⟩, ⟨by repeat (first | (with_reducible first | exact HB.out | apply below_alloc | apply pw_below_drewN | apply below_drew1 | refine below_set ?_ GE155.out) | exact HB.out)⟩⟩
                     ·rw [if_neg c58] at H
                      exact absurd H (by simp)
                    ·rw [if_neg c57] at H
                     exact absurd H (by simp)
                   ·replace c56 := Bool.eq_false_iff.mpr c56
                    subst c56
                    have H1 : (rivuletref23_Show.j6 kj48 l0 x3_48 x4_1 ((rd_T23 l0 x4_1).f0) ((rd_T23 l0 x4_1).f1) ((rd_T23 l0 x4_1).f2) ((rd_T23 l0 x4_1).f3) ((rd_T23 l0 x4_1).f4) ((rd_T23 l0 x4_1).f5) ((rd_T23 l0 x4_1).f6) ((rd_T23 l0 x4_1).f7)) = some r := by rw [if_neg (show ¬ (false = true) by decide)] at H; exact H
                    clear H
                    have H := H1
                    clear H1
                    have H' := Aside0.mk H
                    clear H
                    go_wp2
                    go_meet
                    case rel => exact ⟨_, (x3_48), (by first | rfl | (simp; done) | (simp [*]; done)), H', ⟨by have := HK1.out; have := HK2.out; have := HJ29.out; have := HJ37.out; have := HJ40.out; have := HJ48.out; first | omega | exact Nat.le_refl _⟩, ⟨by (with_reducible repeat (first | refine blk_drewN ?_ _ | refine blk_drew ?_ | refine blk_alloc ?_ _)); exact BK155.out⟩, ⟨by repeat (first | (with_reducible first | exact HB.out | apply below_alloc | apply pw_below_drewN | apply below_drew1 | refine below_set ?_ GE155.out) | exact HB.out)⟩⟩
                  case rest =>
                   clear HC53
                   try clear c1
                   try clear p1
                   try clear q1
                   try clear hx1
                   try clear c2
                   try clear c2b0
                   try clear p2
                   try clear c3
                   try clear c3b0
                   try clear c4
                   try clear c5
                   try clear p6
                   try clear c7
                   try clear c7b0
                   try clear c7b1
                   try clear c7b2
                   try clear c12
                   try clear p15
                   try clear q15
                   try clear hx15
                   try clear c16
                   try clear c16b0
                   try clear p16
                   try clear q16
                   try clear hx16
                   try clear c18
                   try clear c19
                   try clear c19b0
                   try clear c20
                   try clear c20b0
                   try clear c22
                   try clear c22b0
                   try clear c22b1
                   try clear c22b2
                   try clear c23
                   try clear c23b0
                   try clear c23b1
                   try clear c23b2
                   try clear c32
                   try clear c39
                   try clear c40
                   try clear c40b0
                   try clear c40b1
                   try clear c40b2
                   try clear c41
                   try clear c43
                   try clear c50
                   try clear c51
                   try clear c51b0
                   try clear c51b1
                   try clear c51b2
                   try clear c56
                   try clear c57
                   try clear c57b0
                   try clear c57b1
                   try clear c57b2
                   try clear c58
                   try clear c58b0
                   try clear c58b1
                   try clear c58b2
                   try clear hcz10_0
                   try clear hcz10_1
                   try clear hcz10_2
                   try clear hcz10_3
                   try clear hcz10_4
                   try clear hcz10_5
                   try clear hcz10_6
                   try clear hcz10_7
                   try clear hcz12_0
                   try clear hcz12_1
                   try clear hcz12_2
                   try clear hcz12_3
                   try clear hcz12_4
                   try clear hcz12_5
                   try clear hcz12_6
                   try clear hcz12_7
                   try clear hcz14_0
                   try clear hcz14_1
                   try clear hcz14_2
                   try clear hcz14_3
                   try clear hcz14_4
                   try clear hcz14_5
                   try clear hcz14_6
                   try clear hcz14_7
                   try clear hcz24_0
                   try clear hcz24_1
                   try clear hcz24_2
                   try clear hcz24_3
                   try clear hcz24_4
                   try clear hcz24_5
                   try clear hcz24_6
                   try clear hcz24_7
                   try clear hcz28_0
                   try clear hcz28_1
                   try clear hcz28_2
                   try clear hcz28_3
                   try clear hcz28_4
                   try clear hcz28_5
                   try clear hcz28_6
                   try clear hcz28_7
                   try clear hcz33_0
                   try clear hcz33_1
                   try clear hcz33_2
                   try clear hcz33_3
                   try clear hcz33_4
                   try clear hcz33_5
                   try clear hcz33_6
                   try clear hcz33_7
                   try clear hcz35_0
                   try clear hcz35_1
                   try clear hcz35_2
                   try clear hcz35_3
                   try clear hcz35_4
                   try clear hcz35_5
                   try clear hcz35_6
                   try clear hcz35_7
                   try clear hcz36_0
                   try clear hcz36_1
                   try clear hcz36_2
                   try clear hcz36_3
                   try clear hcz36_4
                   try clear hcz36_5
                   try clear hcz36_6
                   try clear hcz36_7
                   try clear hcz44_0
                   try clear hcz44_1
                   try clear hcz44_2
                   try clear hcz44_3
                   try clear hcz44_4
                   try clear hcz44_5
                   try clear hcz44_6
                   try clear hcz44_7
                   try clear hcz46_0
                   try clear hcz46_1
                   try clear hcz46_2
                   try clear hcz46_3
                   try clear hcz46_4
                   try clear hcz46_5
                   try clear hcz46_6
                   try clear hcz46_7
                   try clear hcz47_0
                   try clear hcz47_1
                   try clear hcz47_2
                   try clear hcz47_3
                   try clear hcz47_4
                   try clear hcz47_5
                   try clear hcz47_6
                   try clear hcz47_7
                   try clear hcz54_0
                   try clear hcz54_1
                   try clear hcz54_2
                   try clear hcz54_3
                   try clear hcz54_4
                   try clear hcz54_5
                   try clear hcz54_6
                   try clear hcz54_7
                   try clear hcz59_0
                   try clear hcz59_1
                   try clear hcz59_2
                   try clear hcz59_3
                   try clear hcz59_4
                   try clear hcz59_5
                   try clear hcz59_6
                   try clear hcz59_7
                   try clear hfz10_0
                   try clear hfz10_1
                   try clear hfz10_2
                   try clear hfz10_3
                   try clear hfz10_4
                   try clear hfz10_5
                   try clear hfz10_6
                   try clear hfz10_7
                   try clear hfz12_0
                   try clear hfz12_1
                   try clear hfz12_2
                   try clear hfz12_3
                   try clear hfz12_4
                   try clear hfz12_5
                   try clear hfz12_6
                   try clear hfz12_7
                   try clear hfz14_0
                   try clear hfz14_1
                   try clear hfz14_2
                   try clear hfz14_3
                   try clear hfz14_4
                   try clear hfz14_5
                   try clear hfz14_6
                   try clear hfz14_7
                   try clear hfz24_0
                   try clear hfz24_1
                   try clear hfz24_2
                   try clear hfz24_3
                   try clear hfz24_4
                   try clear hfz24_5
                   try clear hfz24_6
                   try clear hfz24_7
                   try clear hfz28_0
                   try clear hfz28_1
                   try clear hfz28_2
                   try clear hfz28_3
                   try clear hfz28_4
                   try clear hfz28_5
                   try clear hfz28_6
                   try clear hfz28_7
                   try clear hfz33_0
                   try clear hfz33_1
                   try clear hfz33_2
                   try clear hfz33_3
                   try clear hfz33_4
                   try clear hfz33_5
                   try clear hfz33_6
                   try clear hfz33_7
                   try clear hfz35_0
                   try clear hfz35_1
                   try clear hfz35_2
                   try clear hfz35_3
                   try clear hfz35_4
                   try clear hfz35_5
                   try clear hfz35_6
                   try clear hfz35_7
                   try clear hfz36_0
                   try clear hfz36_1
                   try clear hfz36_2
                   try clear hfz36_3
                   try clear hfz36_4
                   try clear hfz36_5
                   try clear hfz36_6
                   try clear hfz36_7
                   try clear hfz44_0
                   try clear hfz44_1
                   try clear hfz44_2
                   try clear hfz44_3
                   try clear hfz44_4
                   try clear hfz44_5
                   try clear hfz44_6
                   try clear hfz44_7
                   try clear hfz46_0
                   try clear hfz46_1
                   try clear hfz46_2
                   try clear hfz46_3
                   try clear hfz46_4
                   try clear hfz46_5
                   try clear hfz46_6
                   try clear hfz46_7
                   try clear hfz47_0
                   try clear hfz47_1
                   try clear hfz47_2
                   try clear hfz47_3
                   try clear hfz47_4
                   try clear hfz47_5
                   try clear hfz47_6
                   try clear hfz47_7
                   try clear hfz54_0
                   try clear hfz54_1
                   try clear hfz54_2
                   try clear hfz54_3
                   try clear hfz54_4
                   try clear hfz54_5
                   try clear hfz54_6
                   try clear hfz54_7
                   try clear hfz59_0
                   try clear hfz59_1
                   try clear hfz59_2
                   try clear hfz59_3
                   try clear hfz59_4
                   try clear hfz59_5
                   try clear hfz59_6
                   try clear hfz59_7
                   try clear hx154_0
                   try clear hx154_1
                   try clear hx154_2
                   try clear hx154_3
                   try clear hx154_4
                   try clear hx154_5
                   try clear hx154_6
                   try clear hx154_7
                   try clear hx162_0
                   try clear p1
                   try clear p15
                   try clear p154
                   try clear p16
                   try clear p162
                   try clear p2
                   try clear p6
                   try clear q1
                   try clear q15
                   try clear q154
                   try clear q16
                   try clear q162
                   obtain ⟨kq, x3_52, rfl, HA, HJ52, BK155, HB⟩ := hcut
                   cases kq with
                   | zero => exact absurd HA.out (by simp [rivuletref23_Show.j6])
                   | succ kj52 =>
                    have H := HA.out
                    clear HA
                    simp only [rivuletref23_Show.j6] at H
                    replace H := Option.bind_eq_some_iff.mp H
                    obtain ⟨t167, A600, H⟩ := H
                    replace H : (if t167 = true then ((rivuletref06_Digits.f (((rd_T23 l0 x4_1).f5).size : Int)).bind fun t168 => (if 1 + t168.size ≤ 9223372036854775807 then (if x3_52.size + ((⟨#[32]⟩ : ByteArray) ++ t168).size ≤ 9223372036854775807 then (if (x3_52 ++ ((⟨#[32]⟩ : ByteArray) ++ t168)).size + 1 ≤ 9223372036854775807 then (rivuletref23_Show.l0 kj52 l0 ((x3_52 ++ ((⟨#[32]⟩ : ByteArray) ++ t168)) ++ (⟨#[10]⟩ : ByteArray)) (wrap64 (x4_1 + 1))) else (none)) else (none)) else (none))) else (if x3_52.size + 1 ≤ 9223372036854775807 then (rivuletref23_Show.l0 kj52 l0 (x3_52 ++ (⟨#[10]⟩ : ByteArray)) (wrap64 (x4_1 + 1))) else (none))) = some r := H
                    have A60 := Aside0.mk A600
                    clear A600
                    by_cases c61 : t167 = true
                    ·subst c61
                     have H1 : ((rivuletref06_Digits.f (((rd_T23 l0 x4_1).f5).size : Int)).bind fun t168 => (if 1 + t168.size ≤ 9223372036854775807 then (if x3_52.size + ((⟨#[32]⟩ : ByteArray) ++ t168).size ≤ 9223372036854775807 then (if (x3_52 ++ ((⟨#[32]⟩ : ByteArray) ++ t168)).size + 1 ≤ 9223372036854775807 then (rivuletref23_Show.l0 kj52 l0 ((x3_52 ++ ((⟨#[32]⟩ : ByteArray) ++ t168)) ++ (⟨#[10]⟩ : ByteArray)) (wrap64 (x4_1 + 1))) else (none)) else (none)) else (none))) = some r := by rw [if_pos rfl] at H; exact H
                     clear H
                     have H := H1
                     clear H1
                     replace H := Option.bind_eq_some_iff.mp H
                     obtain ⟨t168, A620, H⟩ := H
                     replace H : (if 1 + t168.size ≤ 9223372036854775807 then (if x3_52.size + ((⟨#[32]⟩ : ByteArray) ++ t168).size ≤ 9223372036854775807 then (if (x3_52 ++ ((⟨#[32]⟩ : ByteArray) ++ t168)).size + 1 ≤ 9223372036854775807 then (rivuletref23_Show.l0 kj52 l0 ((x3_52 ++ ((⟨#[32]⟩ : ByteArray) ++ t168)) ++ (⟨#[10]⟩ : ByteArray)) (wrap64 (x4_1 + 1))) else (none)) else (none)) else (none)) = some r := H
                     have A62 := Aside0.mk A620
                     clear A620
                     by_cases c63 : 1 + t168.size ≤ 9223372036854775807
                     ·rw [if_pos c63] at H
                      have c63b0 := eq_true c63
                      have c63b1 : decide (1 + t168.size ≤ 9223372036854775807) = true := decide_eq_true c63
                      try have c63b2 : (9223372036854775807 < 1 + t168.size) = False := eq_false (Nat.not_lt.2 c63)
                      by_cases c64 : x3_52.size + ((⟨#[32]⟩ : ByteArray) ++ t168).size ≤ 9223372036854775807
                      ·rw [if_pos c64] at H
                       have c64b0 := eq_true c64
                       (try (have c64z0 := eq_true c64; simp only [ByteArray.size_append, show (⟨#[32]⟩ : ByteArray).size = 1 from rfl] at c64z0))
                       (try (have c64z1 := eq_false (Nat.not_lt.2 c64); simp only [ByteArray.size_append, show (⟨#[32]⟩ : ByteArray).size = 1 from rfl] at c64z1))
                       have c64b1 : decide (x3_52.size + ((⟨#[32]⟩ : ByteArray) ++ t168).size ≤ 9223372036854775807) = true := decide_eq_true c64
                       try have c64b2 : (9223372036854775807 < x3_52.size + ((⟨#[32]⟩ : ByteArray) ++ t168).size) = False := eq_false (Nat.not_lt.2 c64)
                       by_cases c65 : (x3_52 ++ ((⟨#[32]⟩ : ByteArray) ++ t168)).size + 1 ≤ 9223372036854775807
                       ·rw [if_pos c65] at H
                        have c65b0 := eq_true c65
                        (try (have c65z0 := eq_true c65; simp only [ByteArray.size_append, show (⟨#[32]⟩ : ByteArray).size = 1 from rfl] at c65z0))
                        (try (have c65z1 := eq_false (Nat.not_lt.2 c65); simp only [ByteArray.size_append, show (⟨#[32]⟩ : ByteArray).size = 1 from rfl] at c65z1))
                        have c65b1 : decide ((x3_52 ++ ((⟨#[32]⟩ : ByteArray) ++ t168)).size + 1 ≤ 9223372036854775807) = true := decide_eq_true c65
                        try have c65b2 : (9223372036854775807 < (x3_52 ++ ((⟨#[32]⟩ : ByteArray) ++ t168)).size + 1) = False := eq_false (Nat.not_lt.2 c65)
                        have H' := Aside0.mk H
                        clear H
                        have hcz66_0 : wc.cell? ⟨gb155, 0, none⟩ = some (.int .i64 ((rd_T23 l0 x4_1).f0)) := (blk_cell BK155.out 0).trans rfl
                        have hcz66_1 : wc.cell? ⟨gb155, 1, none⟩ = some (.int .i64 ((rd_T23 l0 x4_1).f1)) := (blk_cell BK155.out 1).trans rfl
                        have hcz66_2 : wc.cell? ⟨gb155, 2, none⟩ = some (.int .i64 ((rd_T23 l0 x4_1).f2)) := (blk_cell BK155.out 2).trans rfl
                        have hcz66_3 : wc.cell? ⟨gb155, 3, none⟩ = some (.int .i64 ((rd_T23 l0 x4_1).f3)) := (blk_cell BK155.out 3).trans rfl
                        have hcz66_4 : wc.cell? ⟨gb155, 4, none⟩ = some (.string ((rd_T23 l0 x4_1).f4)) := (blk_cell BK155.out 4).trans rfl
                        have hcz66_5 : wc.cell? ⟨gb155, 5, none⟩ = some (.string ((rd_T23 l0 x4_1).f5)) := (blk_cell BK155.out 5).trans rfl
                        have hcz66_6 : wc.cell? ⟨gb155, 6, none⟩ = some (.bool ((rd_T23 l0 x4_1).f6)) := (blk_cell BK155.out 6).trans rfl
                        have hcz66_7 : wc.cell? ⟨gb155, 7, none⟩ = some (.int .i64 ((rd_T23 l0 x4_1).f7)) := (blk_cell BK155.out 7).trans rfl
                        have hfz66_0 := blk_frozen BK155.out 0
                        have hfz66_1 := blk_frozen BK155.out 1
                        have hfz66_2 := blk_frozen BK155.out 2
                        have hfz66_3 := blk_frozen BK155.out 3
                        have hfz66_4 := blk_frozen BK155.out 4
                        have hfz66_5 := blk_frozen BK155.out 5
                        have hfz66_6 := blk_frozen BK155.out 6
                        have hfz66_7 := blk_frozen BK155.out 7
                        go_wp2_with (first | ((with_reducible refine gate_callee (f := 41) rfl ?_); refine goesL_ (some 73) rfl rfl Tryd.func41 (by kernel_rfl) rfl #[.int .i64 ((rd_T23 l0 x4_1).f0), .int .i64 6] rfl (by (try simp only [List.map_toArray, List.map_cons, List.map_nil]); first | done | rfl | (simp only [List.length_drop, List.length_take]; rfl)) ?_; (with_reducible refine (rivuletref23_Has.calls ((rd_T23 l0 x4_1).f0) 6 true _ A60.out).mono ?_); rintro e w67 ⟨rfl, hb⟩; refine ⟨_, rfl, ?_⟩; have n0_ := Aside0.mk (blk_below (g := gb155) (o := .cells #[.int .i64 ((rd_T23 l0 x4_1).f0), .int .i64 ((rd_T23 l0 x4_1).f1), .int .i64 ((rd_T23 l0 x4_1).f2), .int .i64 ((rd_T23 l0 x4_1).f3), .string ((rd_T23 l0 x4_1).f4), .string ((rd_T23 l0 x4_1).f5), .bool ((rd_T23 l0 x4_1).f6), .int .i64 ((rd_T23 l0 x4_1).f7)] 23 (0, 0)) (by (with_reducible repeat (first | refine blk_drewN ?_ _ | refine blk_drew ?_ | refine blk_alloc ?_ _)); exact BK155.out) hb); have n1_ := Aside0.mk (below_step (by repeat (first | (with_reducible first | exact HB.out | apply below_alloc | apply pw_below_drewN | apply below_drew1 | refine below_set ?_ GE155.out) | exact HB.out)) hb); clear BK155; clear HB; have BK155 := n0_; have HB := n1_; clear n0_ n1_; (try clear hb); (try clear hb2); (try clear hk); (try clear hi); have hcz68_0 : w67.cell? ⟨gb155, 0, none⟩ = some (.int .i64 ((rd_T23 l0 x4_1).f0)) := (blk_cell BK155.out 0).trans rfl; have hcz68_1 : w67.cell? ⟨gb155, 1, none⟩ = some (.int .i64 ((rd_T23 l0 x4_1).f1)) := (blk_cell BK155.out 1).trans rfl; have hcz68_2 : w67.cell? ⟨gb155, 2, none⟩ = some (.int .i64 ((rd_T23 l0 x4_1).f2)) := (blk_cell BK155.out 2).trans rfl; have hcz68_3 : w67.cell? ⟨gb155, 3, none⟩ = some (.int .i64 ((rd_T23 l0 x4_1).f3)) := (blk_cell BK155.out 3).trans rfl; have hcz68_4 : w67.cell? ⟨gb155, 4, none⟩ = some (.string ((rd_T23 l0 x4_1).f4)) := (blk_cell BK155.out 4).trans rfl; have hcz68_5 : w67.cell? ⟨gb155, 5, none⟩ = some (.string ((rd_T23 l0 x4_1).f5)) := (blk_cell BK155.out 5).trans rfl; have hcz68_6 : w67.cell? ⟨gb155, 6, none⟩ = some (.bool ((rd_T23 l0 x4_1).f6)) := (blk_cell BK155.out 6).trans rfl; have hcz68_7 : w67.cell? ⟨gb155, 7, none⟩ = some (.int .i64 ((rd_T23 l0 x4_1).f7)) := (blk_cell BK155.out 7).trans rfl; have hfz68_0 := blk_frozen BK155.out 0; have hfz68_1 := blk_frozen BK155.out 1; have hfz68_2 := blk_frozen BK155.out 2; have hfz68_3 := blk_frozen BK155.out 3; have hfz68_4 := blk_frozen BK155.out 4; have hfz68_5 := blk_frozen BK155.out 5; have hfz68_6 := blk_frozen BK155.out 6; have hfz68_7 := blk_frozen BK155.out 7) | ((with_reducible refine gate_callee (f := 50) rfl ?_); refine goesL_ (some 78) rfl rfl Tryd.func50 (by kernel_rfl) rfl #[.int .i64 (((rd_T23 l0 x4_1).f5).size : Int)] rfl (by (try simp only [List.map_toArray, List.map_cons, List.map_nil]); first | done | rfl | (simp only [List.length_drop, List.length_take]; rfl)) ?_; (with_reducible refine (rivuletref06_Digits.calls (((rd_T23 l0 x4_1).f5).size : Int) t168 _ A62.out).mono ?_); rintro e w69 ⟨rfl, hb⟩; refine ⟨_, rfl, ?_⟩; have n0_ := Aside0.mk (blk_below (g := gb155) (o := .cells #[.int .i64 ((rd_T23 l0 x4_1).f0), .int .i64 ((rd_T23 l0 x4_1).f1), .int .i64 ((rd_T23 l0 x4_1).f2), .int .i64 ((rd_T23 l0 x4_1).f3), .string ((rd_T23 l0 x4_1).f4), .string ((rd_T23 l0 x4_1).f5), .bool ((rd_T23 l0 x4_1).f6), .int .i64 ((rd_T23 l0 x4_1).f7)] 23 (0, 0)) (by (with_reducible repeat (first | refine blk_drewN ?_ _ | refine blk_drew ?_ | refine blk_alloc ?_ _)); exact BK155.out) hb); have n1_ := Aside0.mk (below_step (by repeat (first | (with_reducible first | exact HB.out | apply below_alloc | apply pw_below_drewN | apply below_drew1 | refine below_set ?_ GE155.out) | exact HB.out)) hb); clear BK155; clear HB; have BK155 := n0_; have HB := n1_; clear n0_ n1_; (try clear hb); (try clear hb2); (try clear hk); (try clear hi)))
                        go_roundg kj52
                        case measure => have := HK1.out; have := HK2.out; have := HJ29.out; have := HJ37.out; have := HJ40.out; have := HJ48.out; have := HJ52.out; omega
                        case rel => exact ⟨((x3_52 ++ ((⟨#[32]⟩ : ByteArray) ++ t168)) ++ (⟨#[10]⟩ : ByteArray)), (wrap64 (x4_1 + 1)), (by first | rfl | (simp; done) | (simp [*]; done)), (by first | rfl | (simp; done) | (simp [*]; done)), H', ⟨by have := HK1.out; have := HK2.out; have := HJ29.out; have := HJ37.out; have := HJ40.out; have := HJ48.out; have := HJ52.out; omega⟩, ⟨by repeat (first | (with_reducible first | exact HB.out | apply below_alloc | apply pw_below_drewN | apply below_drew1 | refine below_set ?_ GE155.out) | exact HB.out)⟩⟩
                       ·rw [if_neg c65] at H
                        exact absurd H (by simp)
                      ·rw [if_neg c64] at H
                       exact absurd H (by simp)
                     ·rw [if_neg c63] at H
                      exact absurd H (by simp)
                    ·replace c61 := Bool.eq_false_iff.mpr c61
                     subst c61
                     have H1 : (if x3_52.size + 1 ≤ 9223372036854775807 then (rivuletref23_Show.l0 kj52 l0 (x3_52 ++ (⟨#[10]⟩ : ByteArray)) (wrap64 (x4_1 + 1))) else (none)) = some r := by rw [if_neg (show ¬ (false = true) by decide)] at H; exact H
                     clear H
                     have H := H1
                     clear H1
                     by_cases c70 : x3_52.size + 1 ≤ 9223372036854775807
                     ·rw [if_pos c70] at H
                      have c70b0 := eq_true c70
                      have c70b1 : decide (x3_52.size + 1 ≤ 9223372036854775807) = true := decide_eq_true c70
                      try have c70b2 : (9223372036854775807 < x3_52.size + 1) = False := eq_false (Nat.not_lt.2 c70)
                      have H' := Aside0.mk H
                      clear H
                      have hcz71_0 : wc.cell? ⟨gb155, 0, none⟩ = some (.int .i64 ((rd_T23 l0 x4_1).f0)) := (blk_cell BK155.out 0).trans rfl
                      have hcz71_1 : wc.cell? ⟨gb155, 1, none⟩ = some (.int .i64 ((rd_T23 l0 x4_1).f1)) := (blk_cell BK155.out 1).trans rfl
                      have hcz71_2 : wc.cell? ⟨gb155, 2, none⟩ = some (.int .i64 ((rd_T23 l0 x4_1).f2)) := (blk_cell BK155.out 2).trans rfl
                      have hcz71_3 : wc.cell? ⟨gb155, 3, none⟩ = some (.int .i64 ((rd_T23 l0 x4_1).f3)) := (blk_cell BK155.out 3).trans rfl
                      have hcz71_4 : wc.cell? ⟨gb155, 4, none⟩ = some (.string ((rd_T23 l0 x4_1).f4)) := (blk_cell BK155.out 4).trans rfl
                      have hcz71_5 : wc.cell? ⟨gb155, 5, none⟩ = some (.string ((rd_T23 l0 x4_1).f5)) := (blk_cell BK155.out 5).trans rfl
                      have hcz71_6 : wc.cell? ⟨gb155, 6, none⟩ = some (.bool ((rd_T23 l0 x4_1).f6)) := (blk_cell BK155.out 6).trans rfl
                      have hcz71_7 : wc.cell? ⟨gb155, 7, none⟩ = some (.int .i64 ((rd_T23 l0 x4_1).f7)) := (blk_cell BK155.out 7).trans rfl
                      have hfz71_0 := blk_frozen BK155.out 0
                      have hfz71_1 := blk_frozen BK155.out 1
                      have hfz71_2 := blk_frozen BK155.out 2
                      have hfz71_3 := blk_frozen BK155.out 3
                      have hfz71_4 := blk_frozen BK155.out 4
                      have hfz71_5 := blk_frozen BK155.out 5
                      have hfz71_6 := blk_frozen BK155.out 6
                      have hfz71_7 := blk_frozen BK155.out 7
                      go_wp2_with (first | ((with_reducible refine gate_callee (f := 41) rfl ?_); refine goesL_ (some 73) rfl rfl Tryd.func41 (by kernel_rfl) rfl #[.int .i64 ((rd_T23 l0 x4_1).f0), .int .i64 6] rfl (by (try simp only [List.map_toArray, List.map_cons, List.map_nil]); first | done | rfl | (simp only [List.length_drop, List.length_take]; rfl)) ?_; (with_reducible refine (rivuletref23_Has.calls ((rd_T23 l0 x4_1).f0) 6 false _ A60.out).mono ?_); rintro e w72 ⟨rfl, hb⟩; refine ⟨_, rfl, ?_⟩; have n0_ := Aside0.mk (blk_below (g := gb155) (o := .cells #[.int .i64 ((rd_T23 l0 x4_1).f0), .int .i64 ((rd_T23 l0 x4_1).f1), .int .i64 ((rd_T23 l0 x4_1).f2), .int .i64 ((rd_T23 l0 x4_1).f3), .string ((rd_T23 l0 x4_1).f4), .string ((rd_T23 l0 x4_1).f5), .bool ((rd_T23 l0 x4_1).f6), .int .i64 ((rd_T23 l0 x4_1).f7)] 23 (0, 0)) (by (with_reducible repeat (first | refine blk_drewN ?_ _ | refine blk_drew ?_ | refine blk_alloc ?_ _)); exact BK155.out) hb); have n1_ := Aside0.mk (below_step (by repeat (first | (with_reducible first | exact HB.out | apply below_alloc | apply pw_below_drewN | apply below_drew1 | refine below_set ?_ GE155.out) | exact HB.out)) hb); clear BK155; clear HB; have BK155 := n0_; have HB := n1_; clear n0_ n1_; (try clear hb); (try clear hb2); (try clear hk); (try clear hi)))
                      go_roundg kj52
                      case measure => have := HK1.out; have := HK2.out; have := HJ29.out; have := HJ37.out; have := HJ40.out; have := HJ48.out; have := HJ52.out; omega
                      case rel => exact ⟨(x3_52 ++ (⟨#[10]⟩ : ByteArray)), (wrap64 (x4_1 + 1)), (by first | rfl | (simp; done) | (simp [*]; done)), (by first | rfl | (simp; done) | (simp [*]; done)), H', ⟨by have := HK1.out; have := HK2.out; have := HJ29.out; have := HJ37.out; have := HJ40.out; have := HJ48.out; have := HJ52.out; omega⟩, ⟨by repeat (first | (with_reducible first | exact HB.out | apply below_alloc | apply pw_below_drewN | apply below_drew1 | refine below_set ?_ GE155.out) | exact HB.out)⟩⟩
                     ·rw [if_neg c70] at H
                      exact absurd H (by simp)
      ·rw [if_neg c7] at H
       exact absurd H (by simp)
     ·replace c5 := Bool.eq_false_iff.mpr c5
      subst c5
      have H1 : (rivuletref23_Show.l0 k1 l0 x3_1 (wrap64 (x4_1 + 1))) = some r := by rw [if_neg (show ¬ (false = true) by decide)] at H; exact H
      clear H
      have H := H1
      clear H1
      have H' := Aside0.mk H
      clear H
      have p154 : 0 ≤ (x4_1 : Int) := of_decide_eq_true (by first | (with_reducible assumption) | assumption)
      have q154 : x4_1 < (l0.length : Int) := of_decide_eq_true (by first | (with_reducible assumption) | assumption)
      obtain ⟨ad154, e154, hx154_0, hx154_1, hx154_2, hx154_3, hx154_4, hx154_5, hx154_6, hx154_7⟩ := at_T23 HR0.out x4_1 p154 q154
      cases e154
      replace hx154_0 := (HB.out.cell (World.block_lt_of_cell? w _ hx154_0)).trans hx154_0
      replace hx154_1 := (HB.out.cell (World.block_lt_of_cell? w _ hx154_1)).trans hx154_1
      replace hx154_2 := (HB.out.cell (World.block_lt_of_cell? w _ hx154_2)).trans hx154_2
      replace hx154_3 := (HB.out.cell (World.block_lt_of_cell? w _ hx154_3)).trans hx154_3
      replace hx154_4 := (HB.out.cell (World.block_lt_of_cell? w _ hx154_4)).trans hx154_4
      replace hx154_5 := (HB.out.cell (World.block_lt_of_cell? w _ hx154_5)).trans hx154_5
      replace hx154_6 := (HB.out.cell (World.block_lt_of_cell? w _ hx154_6)).trans hx154_6
      replace hx154_7 := (HB.out.cell (World.block_lt_of_cell? w _ hx154_7)).trans hx154_7
      replace p154 := eq_true p154
      replace q154 := eq_true q154
      go_wp2_with (first | ((with_reducible refine gate_dst (N := 5) rfl ?_); refine box_event ?hg (N := 5) ?hd (cs := #[.int .i64 0, .int .i64 0, .int .i64 0, .int .i64 0, .string ⟨#[]⟩, .string ⟨#[]⟩, .bool false, .int .i64 0]) (t := 23) ?hr ?_; (case hd => rfl); (case hg => rfl); (case hr => first | (go_simp; done) | (go_simp; rfl)); intro gb155 hg w73 hbox hb; have n0_ := Aside0.mk (below_step (by repeat (first | (with_reducible first | exact HB.out | apply below_alloc | apply pw_below_drewN | apply below_drew1) | exact HB.out)) hb); have n1_ := Aside0.mk (hbox); have n2_ := Aside0.mk ((by rw [hg]; exact (below_size (by repeat (first | (with_reducible first | exact HB.out | apply below_alloc | apply pw_below_drewN | apply below_drew1) | exact HB.out))) : w.heap.size ≤ gb155)); have n3_ := Aside0.mk ((by rw [hg]; exact (below_size (by repeat (first | (with_reducible first | exact HB.out | apply below_alloc | apply pw_below_drewN | apply below_drew1) | exact HB.out))) : w.heap.size ≤ gb155)); clear HB; have HB := n0_; have BK155 := n1_; have GW155 := n2_; have GE155 := n3_; clear n0_ n1_ n2_ n3_; clear hb hbox hg; have hcz74_0 : w73.cell? ⟨gb155, 0, none⟩ = some (.int .i64 0) := (blk_cell BK155.out 0).trans rfl; have hcz74_1 : w73.cell? ⟨gb155, 1, none⟩ = some (.int .i64 0) := (blk_cell BK155.out 1).trans rfl; have hcz74_2 : w73.cell? ⟨gb155, 2, none⟩ = some (.int .i64 0) := (blk_cell BK155.out 2).trans rfl; have hcz74_3 : w73.cell? ⟨gb155, 3, none⟩ = some (.int .i64 0) := (blk_cell BK155.out 3).trans rfl; have hcz74_4 : w73.cell? ⟨gb155, 4, none⟩ = some (.string ⟨#[]⟩) := (blk_cell BK155.out 4).trans rfl; have hcz74_5 : w73.cell? ⟨gb155, 5, none⟩ = some (.string ⟨#[]⟩) := (blk_cell BK155.out 5).trans rfl; have hcz74_6 : w73.cell? ⟨gb155, 6, none⟩ = some (.bool false) := (blk_cell BK155.out 6).trans rfl; have hcz74_7 : w73.cell? ⟨gb155, 7, none⟩ = some (.int .i64 0) := (blk_cell BK155.out 7).trans rfl; have hfz74_0 := blk_frozen BK155.out 0; have hfz74_1 := blk_frozen BK155.out 1; have hfz74_2 := blk_frozen BK155.out 2; have hfz74_3 := blk_frozen BK155.out 3; have hfz74_4 := blk_frozen BK155.out 4; have hfz74_5 := blk_frozen BK155.out 5; have hfz74_6 := blk_frozen BK155.out 6; have hfz74_7 := blk_frozen BK155.out 7) | ((with_reducible refine gate_callee (f := 12) rfl ?_); refine goesL_ (some 19) rfl rfl Tryd.func12 (by kernel_rfl) rfl #[.agg #[.int .i64 ((rd_T23 l0 x4_1).f0), .int .i64 ((rd_T23 l0 x4_1).f1), .int .i64 ((rd_T23 l0 x4_1).f2), .int .i64 ((rd_T23 l0 x4_1).f3), .string ((rd_T23 l0 x4_1).f4), .string ((rd_T23 l0 x4_1).f5), .bool ((rd_T23 l0 x4_1).f6), .int .i64 ((rd_T23 l0 x4_1).f7)]] rfl (by (try simp only [List.map_toArray, List.map_cons, List.map_nil]); first | done | rfl | (simp only [List.length_drop, List.length_take]; rfl)) ?_; (with_reducible refine (rivuletref23_Right.calls ((rd_T23 l0 x4_1).f0) ((rd_T23 l0 x4_1).f1) ((rd_T23 l0 x4_1).f2) ((rd_T23 l0 x4_1).f3) ((rd_T23 l0 x4_1).f4) ((rd_T23 l0 x4_1).f5) ((rd_T23 l0 x4_1).f6) ((rd_T23 l0 x4_1).f7) false _ A4.out).mono ?_); rintro e w75 ⟨rfl, hb⟩; refine ⟨_, rfl, ?_⟩; have n0_ := Aside0.mk (blk_below (g := gb155) (o := .cells #[.int .i64 ((rd_T23 l0 x4_1).f0), .int .i64 ((rd_T23 l0 x4_1).f1), .int .i64 ((rd_T23 l0 x4_1).f2), .int .i64 ((rd_T23 l0 x4_1).f3), .string ((rd_T23 l0 x4_1).f4), .string ((rd_T23 l0 x4_1).f5), .bool ((rd_T23 l0 x4_1).f6), .int .i64 ((rd_T23 l0 x4_1).f7)] 23 (0, 0)) (by (with_reducible repeat (first | refine blk_drewN ?_ _ | refine blk_drew ?_ | refine blk_alloc ?_ _)); refine blk_put (cs := #[.int .i64 ((rd_T23 l0 x4_1).f0), .int .i64 ((rd_T23 l0 x4_1).f1), .int .i64 ((rd_T23 l0 x4_1).f2), .int .i64 ((rd_T23 l0 x4_1).f3), .string ((rd_T23 l0 x4_1).f4), .string ((rd_T23 l0 x4_1).f5), .bool ((rd_T23 l0 x4_1).f6), .int .i64 0]) ?_ 7 _ rfl; (with_reducible repeat (first | refine blk_drewN ?_ _ | refine blk_drew ?_ | refine blk_alloc ?_ _)); refine blk_put (cs := #[.int .i64 ((rd_T23 l0 x4_1).f0), .int .i64 ((rd_T23 l0 x4_1).f1), .int .i64 ((rd_T23 l0 x4_1).f2), .int .i64 ((rd_T23 l0 x4_1).f3), .string ((rd_T23 l0 x4_1).f4), .string ((rd_T23 l0 x4_1).f5), .bool false, .int .i64 0]) ?_ 6 _ rfl; (with_reducible repeat (first | refine blk_drewN ?_ _ | refine blk_drew ?_ | refine blk_alloc ?_ _)); refine blk_put (cs := #[.int .i64 ((rd_T23 l0 x4_1).f0), .int .i64 ((rd_T23 l0 x4_1).f1), .int .i64 ((rd_T23 l0 x4_1).f2), .int .i64 ((rd_T23 l0 x4_1).f3), .string ((rd_T23 l0 x4_1).f4), .string ⟨#[]⟩, .bool false, .int .i64 0]) ?_ 5 _ rfl; (with_reducible repeat (first | refine blk_drewN ?_ _ | refine blk_drew ?_ | refine blk_alloc ?_ _)); refine blk_put (cs := #[.int .i64 ((rd_T23 l0 x4_1).f0), .int .i64 ((rd_T23 l0 x4_1).f1), .int .i64 ((rd_T23 l0 x4_1).f2), .int .i64 ((rd_T23 l0 x4_1).f3), .string ⟨#[]⟩, .string ⟨#[]⟩, .bool false, .int .i64 0]) ?_ 4 _ rfl; (with_reducible repeat (first | refine blk_drewN ?_ _ | refine blk_drew ?_ | refine blk_alloc ?_ _)); refine blk_put (cs := #[.int .i64 ((rd_T23 l0 x4_1).f0), .int .i64 ((rd_T23 l0 x4_1).f1), .int .i64 ((rd_T23 l0 x4_1).f2), .int .i64 0, .string ⟨#[]⟩, .string ⟨#[]⟩, .bool false, .int .i64 0]) ?_ 3 _ rfl; (with_reducible repeat (first | refine blk_drewN ?_ _ | refine blk_drew ?_ | refine blk_alloc ?_ _)); refine blk_put (cs := #[.int .i64 ((rd_T23 l0 x4_1).f0), .int .i64 ((rd_T23 l0 x4_1).f1), .int .i64 0, .int .i64 0, .string ⟨#[]⟩, .string ⟨#[]⟩, .bool false, .int .i64 0]) ?_ 2 _ rfl; (with_reducible repeat (first | refine blk_drewN ?_ _ | refine blk_drew ?_ | refine blk_alloc ?_ _)); refine blk_put (cs := #[.int .i64 ((rd_T23 l0 x4_1).f0), .int .i64 0, .int .i64 0, .int .i64 0, .string ⟨#[]⟩, .string ⟨#[]⟩, .bool false, .int .i64 0]) ?_ 1 _ rfl; (with_reducible repeat (first | refine blk_drewN ?_ _ | refine blk_drew ?_ | refine blk_alloc ?_ _)); refine blk_put (cs := #[.int .i64 0, .int .i64 0, .int .i64 0, .int .i64 0, .string ⟨#[]⟩, .string ⟨#[]⟩, .bool false, .int .i64 0]) ?_ 0 _ rfl; (with_reducible repeat (first | refine blk_drewN ?_ _ | refine blk_drew ?_ | refine blk_alloc ?_ _)); exact BK155.out) hb); have n1_ := Aside0.mk (below_step (by repeat (first | (with_reducible first | exact HB.out | apply below_alloc | apply pw_below_drewN | apply below_drew1 | refine below_set ?_ GE155.out) | exact HB.out)) hb); clear BK155; clear HB; have BK155 := n0_; have HB := n1_; clear n0_ n1_; (try clear hb); (try clear hb2); (try clear hk); (try clear hi)))
      go_roundg k1
      case measure => have := HK1.out; omega
      case rel => exact ⟨(x3_1), (wrap64 (x4_1 + 1)), (by first | rfl | (simp; done) | (simp [*]; done)), (by first | rfl | (simp; done) | (simp [*]; done)), H', ⟨by have := HK1.out; omega⟩, ⟨by repeat (first | (with_reducible first | exact HB.out | apply below_alloc | apply pw_below_drewN | apply below_drew1 | refine below_set ?_ GE155.out) | exact HB.out)⟩⟩
    ·rw [if_neg c3] at H
     exact absurd H (by simp)
   ·rw [if_neg c2] at H
    have c2b0 : decide (x4_1 < (l0.length : Int)) = false := decide_eq_false c2
    clear c2
    obtain rfl := Option.some.inj H
    go_wp2
    go_ret
    exact ⟨by first | rfl | (simp [errW_none, errW_some] <;> rfl) | (simp [*, errW_none, errW_some] <;> rfl), by repeat (first | (with_reducible first | exact HB.out | apply below_alloc | apply pw_below_drewN | apply below_drew1) | exact HB.out)⟩
end Go.Proofs.YtjjimkmbbifbjaaDoor.Pr
