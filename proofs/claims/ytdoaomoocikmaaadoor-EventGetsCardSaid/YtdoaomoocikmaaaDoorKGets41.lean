import Derived.Test.YtdoaomoocikmaaaDoorKGets35
import Derived.Test.YtdoaomoocikmaaaDoorKGets38
namespace Go.Proofs.YtdoaomoocikmaaaDoor.Pr
open Go.RowKit Go.Proofs.YtdoaomoocikmaaaDoorW.PrintWords Go.Proofs.YtdoaomoocikmaaaDoorW.PrintLast Go.Proofs.YtdoaomoocikmaaaDoorW.PrintMore
attribute [local go_sem] max2_int min2_int max_two min_two max_three min_three max_four min_four
set_option linter.unusedVariables false
set_option linter.unusedSimpArgs false
def rivuletref06_nums.l0 : Nat → ByteArray → Int → Int → List Int → Int → Option (List Int × Int × Int)
  | 0, _, _, _, _, _ => none
  | k + 1, x0, x1, x2, x9, x10 => if x10 < x2 then ((rivuletref01_Get.f x0 x1).bind fun bt262 => (if bt262.2.2 = 0 then (if bt262.1 > 1099511627776 then (if x9.length < 17592186044416 then (rivuletref06_nums.l0 k x0 bt262.2.1 x2 (x9 ++ [1099511627777]) (wrap64 (x10 + 1))) else (none)) else (if x9.length < 17592186044416 then (rivuletref06_nums.l0 k x0 bt262.2.1 x2 (x9 ++ [wrap64 (bt262.1)]) (wrap64 (x10 + 1))) else (none))) else (some (([] : List Int), 0, bt262.2.2)))) else (some (x9, x1, 0))
def rivuletref06_nums.f (k : Nat) (a0 : ByteArray) (a1 : Int) (a2 : Int) : Option (List Int × Int × Int) := rivuletref06_nums.l0 k a0 a1 a2 (([] : List Int)) 0
set_option maxHeartbeats 8000000 in
set_option maxRecDepth 100000 in
theorem rivuletref06_nums.calls (k : Nat) (a0 : ByteArray) (a1 : Int) (a2 : Int) (r1 : List Int) (r2 : Int) (r3 : Int) (w : World) (h : rivuletref06_nums.f k a0 a1 a2 = some (r1, r2, r3)) :
    Calls Tryd.prog 42 #[.string a0, .int .i64 a1, .int .i64 a2] w fun e w' => ∃ v0_ : Value, e = .returned (.tuple #[v0_, .int .i64 r2, .int .i64 r3]) ∧ Kd.R (Kd.int .i64) 3 w' w.heap.size (fun _ => True) v0_ r1 ∧ Below w.heap.size w w' := by
  have HB := Aside0.mk (Below.refl w.heap.size w)
  have H : (rivuletref06_nums.l0 k a0 a1 a2 (([] : List Int)) 0) = some (r1, r2, r3) := h
  clear h
  obtain ⟨y259, hy259⟩ : ∃ y_ : List Int, y_ = (([] : List Int)) := ⟨_, rfl⟩
  replace H : (rivuletref06_nums.l0 k a0 a1 a2 y259 0) = some (r1, r2, r3) := by first | (rw [hy259]; with_reducible exact H) | (have H2_ := (Option.bind_some _ _).symm.trans H; rw [hy259]; with_reducible exact H2_) | (have H2_ := (Option.bind_some _ _).symm.trans H; with_reducible exact H2_) | with_reducible exact H | (rw [hy259]; exact H) | exact H
  have Ny259 := Aside0.mk hy259
  clear hy259
  have H' := Aside0.mk H
  clear H
  go_enter Tryd.func42, Tryd.ntmps42
  go_wp2_with (first | ((with_reducible refine gate_dst (N := 14) rfl ?_); refine Kd.R_lit (Kd.int .i64) _ 3 ?hg (N := 14) ?hd (xs := ([] : List Int)) (inner := []) (ok := fun _ => True) (okp := fun _ => True) ?hr ?hp (fun _ hk => hk) trivial (Below.refl _ _) (Nat.le_refl _) (by simp) ?_; (case hd => rfl); (case hg => rfl); (case hr => first | (go_simp; done) | (go_simp; rfl)); (case hp => exact (Reps.none _ _)); intro v260 w4 ho5 hb hg_ hnew_; clear hg_ hnew_; (first | rw [← Ny259.out] at ho5 | (simp only [Int.reduceToNat] at ho5; rw [← Ny259.out] at ho5)); have n0_ := Aside0.mk (Kd.R_lower ho5 (below_size (by repeat (first | (with_reducible first | exact HB.out | apply below_alloc | apply pw_below_drewN | apply below_drew1) | exact HB.out)))); have n1_ := Aside0.mk (below_step (by repeat (first | (with_reducible first | exact HB.out | apply below_alloc | apply pw_below_drewN | apply below_drew1) | exact HB.out)) hb); clear HB; have HO261 := n0_; have HB := n1_; clear n0_ n1_; clear hb ho5))
  go_loopg [1, 9, 10] k (fun kq v1 v9 v10 w' => ∃ (x1_1 : Int) (x9_1 : List Int) (x10_1 : Int), v1 = .int .i64 x1_1 ∧ v10 = .int .i64 x10_1 ∧ Aside0 (rivuletref06_nums.l0 kq a0 x1_1 a2 x9_1 x10_1 = some (r1, r2, r3)) ∧ Aside0 (kq ≤ k) ∧ Aside0 (Kd.R (Kd.int .i64) 3 w' w.heap.size (fun _ => True) v9 x9_1) ∧ Aside0 (Below w.heap.size w w'))
  case atStart => exact ⟨(a1), (y259), (0), (by first | rfl | (simp; done) | (simp [*]; done)), (by first | rfl | (simp; done) | (simp [*]; done)), H', ⟨Nat.le_refl _⟩, ⟨by (with_reducible repeat (first | apply Kd.R_alloc | apply Kd.R_drewN | apply Kd.R_drew)); exact HO261.out⟩, ⟨by repeat (first | (with_reducible first | exact HB.out | apply below_alloc | apply pw_below_drewN | apply below_drew1) | exact HB.out)⟩⟩
  case round =>
    clear H'
    try clear p2
    try clear c4
    obtain ⟨x1_1, x9_1, x10_1, rfl, rfl, HA, HK1, HO_9, HB⟩ := hrel
    cases gk with
    | zero => exact absurd HA.out (by simp [rivuletref06_nums.l0])
    | succ k1 =>
      have H := HA.out
      clear HA
      simp only [rivuletref06_nums.l0] at H
      by_cases c6 : x10_1 < a2
      · rw [if_pos c6] at H
        have c6b0 : decide (x10_1 < a2) = true := decide_eq_true c6
        clear c6
        replace H := Option.bind_eq_some_iff.mp H
        obtain ⟨⟨t262, t263, t264⟩, A70, H⟩ := H
        replace H : (if t264 = 0 then (if t262 > 1099511627776 then (if x9_1.length < 17592186044416 then (rivuletref06_nums.l0 k1 a0 t263 a2 (x9_1 ++ [1099511627777]) (wrap64 (x10_1 + 1))) else (none)) else (if x9_1.length < 17592186044416 then (rivuletref06_nums.l0 k1 a0 t263 a2 (x9_1 ++ [wrap64 (t262)]) (wrap64 (x10_1 + 1))) else (none))) else (some (([] : List Int), 0, t264))) = some (r1, r2, r3) := H
        have A7 := Aside0.mk A70
        clear A70
        by_cases c8 : t264 = 0
        · rw [if_pos c8] at H
          have c8b0 : (t264 == 0) = true := beq_iff_eq.mpr c8
          have c8b1 : (t264 != 0) = false := bne_eq_false_iff_eq.mpr c8
          clear c8
          by_cases c9 : t262 > 1099511627776
          · rw [if_pos c9] at H
            have c9b0 : decide (1099511627776 < t262) = true := decide_eq_true c9
            clear c9
            by_cases c10 : x9_1.length < 17592186044416
            · rw [if_pos c10] at H
              have LMc10 := Aside0.mk c10
              clear c10
              obtain ⟨y265, hy265⟩ : ∃ y_ : List Int, y_ = (x9_1 ++ [1099511627777]) := ⟨_, rfl⟩
              replace H : (rivuletref06_nums.l0 k1 a0 t263 a2 y265 (wrap64 (x10_1 + 1))) = some (r1, r2, r3) := by first | (rw [hy265]; with_reducible exact H) | (have H2_ := (Option.bind_some _ _).symm.trans H; rw [hy265]; with_reducible exact H2_) | (have H2_ := (Option.bind_some _ _).symm.trans H; with_reducible exact H2_) | with_reducible exact H | (rw [hy265]; exact H) | exact H
              have Ny265 := Aside0.mk hy265
              clear hy265
              have H' := Aside0.mk H
              clear H
              go_wp2_with (first | ((with_reducible refine gate_callee (f := 44) rfl ?_); refine goesL_ (some 23) rfl rfl Tryd.func44 (by kernel_rfl) rfl #[.string a0, .int .i64 x1_1] rfl (by (try simp only [List.map_toArray, List.map_cons, List.map_nil]); first | done | rfl | (simp only [List.length_drop, List.length_take]; rfl)) ?_; (with_reducible refine (rivuletref01_Get.calls a0 x1_1 t262 t263 t264 _ A7.out).mono ?_); rintro e w11 ⟨rfl, hb⟩; refine ⟨_, rfl, ?_⟩; have n0_ := Aside0.mk (Kd.R_below (by (with_reducible repeat (first | apply Kd.R_alloc | apply Kd.R_drewN | apply Kd.R_drew)); exact HO_9.out) hb); have n1_ := Aside0.mk (below_step (by repeat (first | (with_reducible first | exact HB.out | apply below_alloc | apply pw_below_drewN | apply below_drew1) | exact HB.out)) hb); clear HO_9; clear HB; have HO_9 := n0_; have HB := n1_; clear n0_ n1_; (try clear hb); (try clear hb2); (try clear hk); (try clear hi)) | ((with_reducible refine gate_builtin (b := .append) (xs := #[.tmp 32, .tmp 35]) rfl ?_); at_builtin; refine Kd.R_append (Kd.int .i64) (w0 := w) w.heap.size rfl (.tmp 32) (.tmp 35) 62 3 (.int .i64 0) 8 rfl Tryd.underlying62 info3 rfl (by decide) (by omega) u9 x9_1 1099511627777 [.int .i64 1099511627777] (fun _ => True) (fun _ => False) rfl rfl ?aP (fun _ hk => hk.elim) ?aF ?aO ?aB ?aS ?aL ?_; (case aP => exact rfl); (case aB => exact (by repeat (first | (with_reducible first | exact HB.out | apply below_alloc | apply pw_below_drewN | apply below_drew1) | exact HB.out))); (case aF => exact (fun _ _ => trivial)); (case aO => exact (by (with_reducible repeat (first | apply Kd.R_alloc | apply Kd.R_drewN | apply Kd.R_drew)); exact HO_9.out)); (case aS => exact (below_size (by repeat (first | (with_reducible first | exact HB.out | apply below_alloc | apply pw_below_drewN | apply below_drew1) | exact HB.out)))); (case aL => have := LMc10.out; omega); intro v266 w12 ho hb hg hat; rw [← Ny265.out] at ho; have n0_ := Aside0.mk (hb); have n1_ := Aside0.mk (ho); clear HB; clear HO_9; have HB := n0_; have HO267 := n1_; clear n0_ n1_; clear ho hb hg hat))
              go_roundg k1
              case measure => have := HK1.out; omega
              case rel => exact ⟨(t263), (y265), (wrap64 (x10_1 + 1)), (by first | rfl | (simp; done) | (simp [*]; done)), (by first | rfl | (simp; done) | (simp [*]; done)), H', ⟨by have := HK1.out; omega⟩, ⟨by (with_reducible repeat (first | apply Kd.R_alloc | apply Kd.R_drewN | apply Kd.R_drew)); exact HO267.out⟩, ⟨by repeat (first | (with_reducible first | exact HB.out | apply below_alloc | apply pw_below_drewN | apply below_drew1) | exact HB.out)⟩⟩
            · rw [if_neg c10] at H
              exact absurd H (by simp)
          · rw [if_neg c9] at H
            have c9b0 : decide (1099511627776 < t262) = false := decide_eq_false c9
            clear c9
            by_cases c13 : x9_1.length < 17592186044416
            · rw [if_pos c13] at H
              have LMc13 := Aside0.mk c13
              clear c13
              obtain ⟨y268, hy268⟩ : ∃ y_ : List Int, y_ = (x9_1 ++ [wrap64 (t262)]) := ⟨_, rfl⟩
              replace H : (rivuletref06_nums.l0 k1 a0 t263 a2 y268 (wrap64 (x10_1 + 1))) = some (r1, r2, r3) := by first | (rw [hy268]; with_reducible exact H) | (have H2_ := (Option.bind_some _ _).symm.trans H; rw [hy268]; with_reducible exact H2_) | (have H2_ := (Option.bind_some _ _).symm.trans H; with_reducible exact H2_) | with_reducible exact H | (rw [hy268]; exact H) | exact H
              have Ny268 := Aside0.mk hy268
              clear hy268
              have H' := Aside0.mk H
              clear H
              go_wp2_with (first | ((with_reducible refine gate_callee (f := 44) rfl ?_); refine goesL_ (some 23) rfl rfl Tryd.func44 (by kernel_rfl) rfl #[.string a0, .int .i64 x1_1] rfl (by (try simp only [List.map_toArray, List.map_cons, List.map_nil]); first | done | rfl | (simp only [List.length_drop, List.length_take]; rfl)) ?_; (with_reducible refine (rivuletref01_Get.calls a0 x1_1 t262 t263 t264 _ A7.out).mono ?_); rintro e w14 ⟨rfl, hb⟩; refine ⟨_, rfl, ?_⟩; have n0_ := Aside0.mk (Kd.R_below (by (with_reducible repeat (first | apply Kd.R_alloc | apply Kd.R_drewN | apply Kd.R_drew)); exact HO_9.out) hb); have n1_ := Aside0.mk (below_step (by repeat (first | (with_reducible first | exact HB.out | apply below_alloc | apply pw_below_drewN | apply below_drew1) | exact HB.out)) hb); clear HO_9; clear HB; have HO_9 := n0_; have HB := n1_; clear n0_ n1_; (try clear hb); (try clear hb2); (try clear hk); (try clear hi)) | ((with_reducible refine gate_builtin (b := .append) (xs := #[.tmp 32, .tmp 35]) rfl ?_); at_builtin; refine Kd.R_append (Kd.int .i64) (w0 := w) w.heap.size rfl (.tmp 32) (.tmp 35) 62 3 (.int .i64 0) 8 rfl Tryd.underlying62 info3 rfl (by decide) (by omega) u9 x9_1 (wrap64 (t262)) [.int .i64 (wrap64 (t262))] (fun _ => True) (fun _ => False) rfl rfl ?aP (fun _ hk => hk.elim) ?aF ?aO ?aB ?aS ?aL ?_; (case aP => exact rfl); (case aB => exact (by repeat (first | (with_reducible first | exact HB.out | apply below_alloc | apply pw_below_drewN | apply below_drew1) | exact HB.out))); (case aF => exact (fun _ _ => trivial)); (case aO => exact (by (with_reducible repeat (first | apply Kd.R_alloc | apply Kd.R_drewN | apply Kd.R_drew)); exact HO_9.out)); (case aS => exact (below_size (by repeat (first | (with_reducible first | exact HB.out | apply below_alloc | apply pw_below_drewN | apply below_drew1) | exact HB.out)))); (case aL => have := LMc13.out; omega); intro v269 w15 ho hb hg hat; rw [← Ny268.out] at ho; have n0_ := Aside0.mk (hb); have n1_ := Aside0.mk (ho); clear HB; clear HO_9; have HB := n0_; have HO270 := n1_; clear n0_ n1_; clear ho hb hg hat))
              go_roundg k1
              case measure => have := HK1.out; omega
              case rel => exact ⟨(t263), (y268), (wrap64 (x10_1 + 1)), (by first | rfl | (simp; done) | (simp [*]; done)), (by first | rfl | (simp; done) | (simp [*]; done)), H', ⟨by have := HK1.out; omega⟩, ⟨by (with_reducible repeat (first | apply Kd.R_alloc | apply Kd.R_drewN | apply Kd.R_drew)); exact HO270.out⟩, ⟨by repeat (first | (with_reducible first | exact HB.out | apply below_alloc | apply pw_below_drewN | apply below_drew1) | exact HB.out)⟩⟩
            · rw [if_neg c13] at H
              exact absurd H (by simp)
        · rw [if_neg c8] at H
          have c8b0 : (t264 == 0) = false := beq_eq_false_iff_ne.mpr c8
          have c8b1 : (t264 != 0) = true := bne_iff_ne.mpr c8
          simp only [Option.some.injEq, Prod.mk.injEq] at H
          obtain ⟨rfl, rfl, rfl⟩ := H
          go_wp2_with (first | ((with_reducible refine gate_callee (f := 44) rfl ?_); refine goesL_ (some 23) rfl rfl Tryd.func44 (by kernel_rfl) rfl #[.string a0, .int .i64 x1_1] rfl (by (try simp only [List.map_toArray, List.map_cons, List.map_nil]); first | done | rfl | (simp only [List.length_drop, List.length_take]; rfl)) ?_; (with_reducible refine (rivuletref01_Get.calls a0 x1_1 t262 t263 t264 _ A7.out).mono ?_); rintro e w16 ⟨rfl, hb⟩; refine ⟨_, rfl, ?_⟩; have n0_ := Aside0.mk (Kd.R_below (by (with_reducible repeat (first | apply Kd.R_alloc | apply Kd.R_drewN | apply Kd.R_drew)); exact HO_9.out) hb); have n1_ := Aside0.mk (below_step (by repeat (first | (with_reducible first | exact HB.out | apply below_alloc | apply pw_below_drewN | apply below_drew1) | exact HB.out)) hb); clear HO_9; clear HB; have HO_9 := n0_; have HB := n1_; clear n0_ n1_; (try clear hb); (try clear hb2); (try clear hk); (try clear hi)))
          go_ret3
          exact ⟨_, by first | rfl | (simp [errW_none, errW_some] <;> rfl) | (simp [*, errW_none, errW_some] <;> rfl), by first | exact Kd.R_nil _ _ _ _ _ | exact Kd.N_nil _ _ _ _ _ | exact Kd.V_nil _ _ _ _ _ | exact Kd.Q_nil _ _ _ _ _ | exact Kd.S_nil _ _ _ _ _, by repeat (first | (with_reducible first | exact HB.out | apply below_alloc | apply pw_below_drewN | apply below_drew1) | exact HB.out)⟩
      · rw [if_neg c6] at H
        have c6b0 : decide (x10_1 < a2) = false := decide_eq_false c6
        clear c6
        simp only [Option.some.injEq, Prod.mk.injEq] at H
        obtain ⟨rfl, rfl, rfl⟩ := H
        go_wp2
        go_ret3
        exact ⟨_, by first | rfl | (simp [errW_none, errW_some] <;> rfl) | (simp [*, errW_none, errW_some] <;> rfl), by (with_reducible repeat (first | apply Kd.R_alloc | apply Kd.R_drewN | apply Kd.R_drew)); exact HO_9.out, by repeat (first | (with_reducible first | exact HB.out | apply below_alloc | apply pw_below_drewN | apply below_drew1) | exact HB.out)⟩
def rivuletref06_Get.f (k : Nat) (a0 : ByteArray) (a1 : Int) : Option (Int × Int × ByteArray × ByteArray × Int × Int × Int) := (rivuletref06_nums.f k a0 a1 3).bind fun bt272 => (if bt272.2.2 = 0 then ((rivuletref01_Cut.f a0 bt272.2.1).bind fun bt277 => (if bt277.2.2 = 0 then ((rivuletref01_Cut.f a0 bt277.2.1).bind fun bt280 => (if bt280.2.2 = 0 then (if 0 < (bt272.1.length : Int) then (if 1 < (bt272.1.length : Int) then (if 2 < (bt272.1.length : Int) then ((rivuletref06_Right.f (rd bt272.1 0) (rd bt272.1 1) bt277.1 bt280.1 (rd bt272.1 2)).bind fun t287 => (if t287 = true then (some (rd bt272.1 0, rd bt272.1 1, bt277.1, bt280.1, rd bt272.1 2, bt280.2.1, 0)) else (some (0, 0, (⟨#[]⟩ : ByteArray), (⟨#[]⟩ : ByteArray), 0, 0, 4)))) else (none)) else (none)) else (none)) else (some (0, 0, (⟨#[]⟩ : ByteArray), (⟨#[]⟩ : ByteArray), 0, 0, bt280.2.2)))) else (some (0, 0, (⟨#[]⟩ : ByteArray), (⟨#[]⟩ : ByteArray), 0, 0, bt277.2.2)))) else (some (0, 0, (⟨#[]⟩ : ByteArray), (⟨#[]⟩ : ByteArray), 0, 0, bt272.2.2)))
def rivuletref06_Get.T10 : Bool × List (List Nat × List Nat) := (true, [([], []), ([0], [0]), ([1], [1]), ([], []), ([3], [3]), ([4], [4]), ([], []), ([6], [6]), ([7], [7]), ([], []), ([], []), ([2, 5, 8, 9, 10], [2, 5, 8, 9, 10]), ([], []), ([12, 11, 0, 1, 2, 3, 4, 5, 6, 7, 8, 9, 10, 11, 12], [11, 12])])
def rivuletref06_Get.B10 : List Nat := [0, 1, 3, 0, 8, 24, 0, 64, 192, 0, 0, 2047, 0, 8191]
theorem rivuletref06_Get.tab10 : rtab .any (opsOf Tryd.f23 10) = rivuletref06_Get.T10 := by kernel_rfl
theorem rivuletref06_Get.bits10 : waitsOk rivuletref06_Get.T10.2 rivuletref06_Get.B10 = true := by kernel_rfl
set_option maxHeartbeats 8000000 in
set_option maxRecDepth 100000 in
theorem rivuletref06_Get.calls (k : Nat) (a0 : ByteArray) (a1 : Int) (r1 : Int) (r2 : Int) (r3 : ByteArray) (r4 : ByteArray) (r5 : Int) (r6 : Int) (r7 : Int) (w : World) (h : rivuletref06_Get.f k a0 a1 = some (r1, r2, r3, r4, r5, r6, r7)) :
    Calls Tryd.prog 23 #[.string a0, .int .i64 a1] w fun e w' => e = .returned (.tuple #[.agg #[.int .i64 r1, .int .i64 r2, .string r3, .string r4, .int .i64 r5], .int .i64 r6, .int .i64 r7]) ∧ Below w.heap.size w w' := by
  have hu23 := Tryd.underlying23
  have HB := Aside0.mk (Below.refl w.heap.size w)
  have H : ((rivuletref06_nums.f k a0 a1 3).bind fun bt272 => (if bt272.2.2 = 0 then ((rivuletref01_Cut.f a0 bt272.2.1).bind fun bt277 => (if bt277.2.2 = 0 then ((rivuletref01_Cut.f a0 bt277.2.1).bind fun bt280 => (if bt280.2.2 = 0 then (if 0 < (bt272.1.length : Int) then (if 1 < (bt272.1.length : Int) then (if 2 < (bt272.1.length : Int) then ((rivuletref06_Right.f (rd bt272.1 0) (rd bt272.1 1) bt277.1 bt280.1 (rd bt272.1 2)).bind fun t287 => (if t287 = true then (some (rd bt272.1 0, rd bt272.1 1, bt277.1, bt280.1, rd bt272.1 2, bt280.2.1, 0)) else (some (0, 0, (⟨#[]⟩ : ByteArray), (⟨#[]⟩ : ByteArray), 0, 0, 4)))) else (none)) else (none)) else (none)) else (some (0, 0, (⟨#[]⟩ : ByteArray), (⟨#[]⟩ : ByteArray), 0, 0, bt280.2.2)))) else (some (0, 0, (⟨#[]⟩ : ByteArray), (⟨#[]⟩ : ByteArray), 0, 0, bt277.2.2)))) else (some (0, 0, (⟨#[]⟩ : ByteArray), (⟨#[]⟩ : ByteArray), 0, 0, bt272.2.2)))) = some (r1, r2, r3, r4, r5, r6, r7) := h
  clear h
  replace H := Option.bind_eq_some_iff.mp H
  obtain ⟨⟨t272, t273, t274⟩, A30, H⟩ := H
  replace H : (if t274 = 0 then ((rivuletref01_Cut.f a0 t273).bind fun bt277 => (if bt277.2.2 = 0 then ((rivuletref01_Cut.f a0 bt277.2.1).bind fun bt280 => (if bt280.2.2 = 0 then (if 0 < (t272.length : Int) then (if 1 < (t272.length : Int) then (if 2 < (t272.length : Int) then ((rivuletref06_Right.f (rd t272 0) (rd t272 1) bt277.1 bt280.1 (rd t272 2)).bind fun t287 => (if t287 = true then (some (rd t272 0, rd t272 1, bt277.1, bt280.1, rd t272 2, bt280.2.1, 0)) else (some (0, 0, (⟨#[]⟩ : ByteArray), (⟨#[]⟩ : ByteArray), 0, 0, 4)))) else (none)) else (none)) else (none)) else (some (0, 0, (⟨#[]⟩ : ByteArray), (⟨#[]⟩ : ByteArray), 0, 0, bt280.2.2)))) else (some (0, 0, (⟨#[]⟩ : ByteArray), (⟨#[]⟩ : ByteArray), 0, 0, bt277.2.2)))) else (some (0, 0, (⟨#[]⟩ : ByteArray), (⟨#[]⟩ : ByteArray), 0, 0, t274))) = some (r1, r2, r3, r4, r5, r6, r7) := H
  have A3 := Aside0.mk A30
  clear A30
  by_cases c4 : t274 = 0
  · rw [if_pos c4] at H
    have c4b0 : (t274 == 0) = true := beq_iff_eq.mpr c4
    have c4b1 : (t274 != 0) = false := bne_eq_false_iff_eq.mpr c4
    clear c4
    replace H := Option.bind_eq_some_iff.mp H
    obtain ⟨⟨t277, t278, t279⟩, A50, H⟩ := H
    replace H : (if t279 = 0 then ((rivuletref01_Cut.f a0 t278).bind fun bt280 => (if bt280.2.2 = 0 then (if 0 < (t272.length : Int) then (if 1 < (t272.length : Int) then (if 2 < (t272.length : Int) then ((rivuletref06_Right.f (rd t272 0) (rd t272 1) t277 bt280.1 (rd t272 2)).bind fun t287 => (if t287 = true then (some (rd t272 0, rd t272 1, t277, bt280.1, rd t272 2, bt280.2.1, 0)) else (some (0, 0, (⟨#[]⟩ : ByteArray), (⟨#[]⟩ : ByteArray), 0, 0, 4)))) else (none)) else (none)) else (none)) else (some (0, 0, (⟨#[]⟩ : ByteArray), (⟨#[]⟩ : ByteArray), 0, 0, bt280.2.2)))) else (some (0, 0, (⟨#[]⟩ : ByteArray), (⟨#[]⟩ : ByteArray), 0, 0, t279))) = some (r1, r2, r3, r4, r5, r6, r7) := H
    have A5 := Aside0.mk A50
    clear A50
    by_cases c6 : t279 = 0
    · rw [if_pos c6] at H
      have c6b0 : (t279 == 0) = true := beq_iff_eq.mpr c6
      have c6b1 : (t279 != 0) = false := bne_eq_false_iff_eq.mpr c6
      clear c6
      replace H := Option.bind_eq_some_iff.mp H
      obtain ⟨⟨t280, t281, t282⟩, A70, H⟩ := H
      replace H : (if t282 = 0 then (if 0 < (t272.length : Int) then (if 1 < (t272.length : Int) then (if 2 < (t272.length : Int) then ((rivuletref06_Right.f (rd t272 0) (rd t272 1) t277 t280 (rd t272 2)).bind fun t287 => (if t287 = true then (some (rd t272 0, rd t272 1, t277, t280, rd t272 2, t281, 0)) else (some (0, 0, (⟨#[]⟩ : ByteArray), (⟨#[]⟩ : ByteArray), 0, 0, 4)))) else (none)) else (none)) else (none)) else (some (0, 0, (⟨#[]⟩ : ByteArray), (⟨#[]⟩ : ByteArray), 0, 0, t282))) = some (r1, r2, r3, r4, r5, r6, r7) := H
      have A7 := Aside0.mk A70
      clear A70
      by_cases c8 : t282 = 0
      · rw [if_pos c8] at H
        have c8b0 : (t282 == 0) = true := beq_iff_eq.mpr c8
        have c8b1 : (t282 != 0) = false := bne_eq_false_iff_eq.mpr c8
        clear c8
        by_cases c9 : 0 < (t272.length : Int)
        · rw [if_pos c9] at H
          have c9b0 : decide (0 < (t272.length : Int)) = true := decide_eq_true c9
          have c9b1 : decide (0 < t272.length) = true := decide_eq_true (by omega)
          clear c9
          by_cases c10 : 1 < (t272.length : Int)
          · rw [if_pos c10] at H
            have c10b0 : decide (1 < (t272.length : Int)) = true := decide_eq_true c10
            have c10b1 : decide (1 < t272.length) = true := decide_eq_true (by omega)
            clear c10
            by_cases c11 : 2 < (t272.length : Int)
            · rw [if_pos c11] at H
              have c11b0 : decide (2 < (t272.length : Int)) = true := decide_eq_true c11
              have c11b1 : decide (2 < t272.length) = true := decide_eq_true (by omega)
              clear c11
              replace H := Option.bind_eq_some_iff.mp H
              obtain ⟨t287, A120, H⟩ := H
              replace H : (if t287 = true then (some (rd t272 0, rd t272 1, t277, t280, rd t272 2, t281, 0)) else (some (0, 0, (⟨#[]⟩ : ByteArray), (⟨#[]⟩ : ByteArray), 0, 0, 4))) = some (r1, r2, r3, r4, r5, r6, r7) := H
              have A12 := Aside0.mk A120
              clear A120
              by_cases c13 : t287 = true
              · subst c13
                have H1 : (some (rd t272 0, rd t272 1, t277, t280, rd t272 2, t281, 0)) = some (r1, r2, r3, r4, r5, r6, r7) := by rw [if_pos rfl] at H; exact H
                clear H
                have H := H1
                clear H1
                simp only [Option.some.injEq, Prod.mk.injEq] at H
                obtain ⟨rfl, rfl, rfl, rfl, rfl, rfl, rfl⟩ := H
                go_enter Tryd.func23, Tryd.ntmps23
                try go_wp2_with (first | ((with_reducible refine gate_dst (N := 4) rfl ?_); refine box_event ?hg (N := 4) ?hd (cs := #[.int .i64 0, .int .i64 0, .string (⟨#[]⟩ : ByteArray), .string (⟨#[]⟩ : ByteArray), .int .i64 0]) (t := 23) ?hr ?_; (case hd => rfl); (case hg => rfl); (case hr => first | (go_simp; done) | (go_simp; rfl)); intro gb271 hg w14 hbox hb; have n0_ := Aside0.mk (below_step (by repeat (first | (with_reducible first | exact HB.out | apply below_alloc | apply pw_below_drewN | apply below_drew1) | exact HB.out)) hb); have n1_ := Aside0.mk (hbox); have n2_ := Aside0.mk ((by rw [hg]; exact (below_size (by repeat (first | (with_reducible first | exact HB.out | apply below_alloc | apply pw_below_drewN | apply below_drew1) | exact HB.out))) : w.heap.size ≤ gb271)); have n3_ := Aside0.mk ((by rw [hg]; exact (below_size (by repeat (first | (with_reducible first | exact HB.out | apply below_alloc | apply pw_below_drewN | apply below_drew1) | exact HB.out))) : w.heap.size ≤ gb271)); clear HB; have HB := n0_; have BK271 := n1_; have GW271 := n2_; have GE271 := n3_; clear n0_ n1_ n2_ n3_; clear hb hbox hg) | ((with_reducible refine gate_callee (f := 42) rfl ?_); refine goesL_ (some 20) rfl rfl Tryd.func42 (by kernel_rfl) rfl #[.string a0, .int .i64 a1, .int .i64 3] rfl (by (try simp only [List.map_toArray, List.map_cons, List.map_nil]); first | done | rfl | (simp only [List.length_drop, List.length_take]; rfl)) ?_; (with_reducible refine (rivuletref06_nums.calls k a0 a1 3 t272 t273 t274 _ A3.out).mono ?_); rintro e w15 ⟨v275, rfl, ho0, hb⟩; refine ⟨_, rfl, ?_⟩; have n0_ := Aside0.mk (Kd.R_lower ho0 (below_size (by repeat (first | (with_reducible first | exact HB.out | apply below_alloc | apply pw_below_drewN | apply below_drew1 | refine below_set ?_ GE271.out) | exact HB.out)))); have n1_ := Aside0.mk (blk_below (g := gb271) (o := .cells #[.int .i64 0, .int .i64 0, .string (⟨#[]⟩ : ByteArray), .string (⟨#[]⟩ : ByteArray), .int .i64 0] 23 (0, 0)) (by (with_reducible repeat (first | refine blk_drewN ?_ _ | refine blk_drew ?_ | refine blk_alloc ?_ _)); exact BK271.out) hb); have n2_ := Aside0.mk (below_step (by repeat (first | (with_reducible first | exact HB.out | apply below_alloc | apply pw_below_drewN | apply below_drew1 | refine below_set ?_ GE271.out) | exact HB.out)) hb); clear BK271; clear HB; have HO276 := n0_; have BK271 := n1_; have HB := n2_; clear n0_ n1_ n2_; (try clear hb); (try clear hb2); (try clear hk); (try clear hi); (try clear ho0)) | ((with_reducible refine gate_callee (f := 43) rfl ?_); refine goesL_ (some 31) rfl rfl Tryd.func43 (by kernel_rfl) rfl #[.string a0, .int .i64 t273] rfl (by (try simp only [List.map_toArray, List.map_cons, List.map_nil]); first | done | rfl | (simp only [List.length_drop, List.length_take]; rfl)) ?_; (with_reducible refine (rivuletref01_Cut.calls a0 t273 t277 t278 t279 _ A5.out).mono ?_); rintro e w16 ⟨rfl, hb⟩; refine ⟨_, rfl, ?_⟩; have n0_ := Aside0.mk (Kd.R_below (by (with_reducible repeat (first | apply Kd.R_alloc | apply Kd.R_drewN | apply Kd.R_drew)); exact HO276.out) hb); have n1_ := Aside0.mk (blk_below (g := gb271) (o := .cells #[.int .i64 0, .int .i64 0, .string (⟨#[]⟩ : ByteArray), .string (⟨#[]⟩ : ByteArray), .int .i64 0] 23 (0, 0)) (by (with_reducible repeat (first | refine blk_drewN ?_ _ | refine blk_drew ?_ | refine blk_alloc ?_ _)); exact BK271.out) hb); have n2_ := Aside0.mk (below_step (by repeat (first | (with_reducible first | exact HB.out | apply below_alloc | apply pw_below_drewN | apply below_drew1 | refine below_set ?_ GE271.out) | exact HB.out)) hb); clear HO276; clear BK271; clear HB; have HO276 := n0_; have BK271 := n1_; have HB := n2_; clear n0_ n1_ n2_; (try clear hb); (try clear hb2); (try clear hk); (try clear hi)) | ((with_reducible refine gate_callee (f := 43) rfl ?_); refine goesL_ (some 42) rfl rfl Tryd.func43 (by kernel_rfl) rfl #[.string a0, .int .i64 t278] rfl (by (try simp only [List.map_toArray, List.map_cons, List.map_nil]); first | done | rfl | (simp only [List.length_drop, List.length_take]; rfl)) ?_; (with_reducible refine (rivuletref01_Cut.calls a0 t278 t280 t281 t282 _ A7.out).mono ?_); rintro e w17 ⟨rfl, hb⟩; refine ⟨_, rfl, ?_⟩; have n0_ := Aside0.mk (Kd.R_below (by (with_reducible repeat (first | apply Kd.R_alloc | apply Kd.R_drewN | apply Kd.R_drew)); exact HO276.out) hb); have n1_ := Aside0.mk (blk_below (g := gb271) (o := .cells #[.int .i64 0, .int .i64 0, .string (⟨#[]⟩ : ByteArray), .string (⟨#[]⟩ : ByteArray), .int .i64 0] 23 (0, 0)) (by (with_reducible repeat (first | refine blk_drewN ?_ _ | refine blk_drew ?_ | refine blk_alloc ?_ _)); exact BK271.out) hb); have n2_ := Aside0.mk (below_step (by repeat (first | (with_reducible first | exact HB.out | apply below_alloc | apply pw_below_drewN | apply below_drew1 | refine below_set ?_ GE271.out) | exact HB.out)) hb); clear HO276; clear BK271; clear HB; have HO276 := n0_; have BK271 := n1_; have HB := n2_; clear n0_ n1_ n2_; (try clear hb); (try clear hb2); (try clear hk); (try clear hi)))
                have n0_ := Aside0.mk (Kd.R_drew HO276.out)
                have n1_ := Aside0.mk (blk_drew BK271.out)
                have n2_ := Aside0.mk (below_drew1 HB.out)
                clear HO276
                clear BK271
                clear HB
                have HO276 := n0_
                have BK271 := n1_
                have HB := n2_
                clear n0_ n1_ n2_
                obtain ⟨Ao19, co19, eo19⟩ := Kd.R_slice HO276.out
                (first | subst eo19 | (injection eo19 with f1_ f2_ f3_; have f4_ := f1_.symm; have f5_ := f3_.symm; clear f1_ f2_ f3_; subst f4_; subst f5_))
                have p283 : 0 ≤ (0 : Int) := (by omega)
                have q283 : 0 < (t272.length : Int) := of_decide_eq_true (by first | (with_reducible assumption) | assumption)
                obtain ⟨ad283, e283, hx283_0⟩ := Kd.at_int (Kd.R_reads' HO276.out).2.2 0 p283 q283
                cases e283
                have qi283 : (0 < t272.length) = True := eq_true (by omega)
                (try rw [show ((0 : Int)).toNat = 0 from rfl] at hx283_0)
                (try rw [Addr.add_zero'] at hx283_0)
                replace p283 := eq_true p283
                replace q283 := eq_true q283
                have p284 : 0 ≤ (1 : Int) := (by omega)
                have q284 : 1 < (t272.length : Int) := of_decide_eq_true (by first | (with_reducible assumption) | assumption)
                obtain ⟨ad284, e284, hx284_0⟩ := Kd.at_int (Kd.R_reads' HO276.out).2.2 1 p284 q284
                obtain rfl : ad283 = ad284 := (by injection e284)
                (try simp only [show (1 : Int).toNat = 1 from rfl, Nat.reduceMul, Nat.reduceEqDiff, Go.Addr.add, ↓reduceIte] at hx284_0)
                have qi284 : (1 < t272.length) = True := eq_true (by omega)
                (try rw [show ((1 : Int)).toNat = 1 from rfl] at hx284_0)
                replace p284 := eq_true p284
                replace q284 := eq_true q284
                have p285 : 0 ≤ (2 : Int) := (by omega)
                have q285 : 2 < (t272.length : Int) := of_decide_eq_true (by first | (with_reducible assumption) | assumption)
                obtain ⟨ad285, e285, hx285_0⟩ := Kd.at_int (Kd.R_reads' HO276.out).2.2 2 p285 q285
                obtain rfl : ad283 = ad285 := (by injection e285)
                (try simp only [show (2 : Int).toNat = 2 from rfl, Nat.reduceMul, Nat.reduceEqDiff, Go.Addr.add, ↓reduceIte] at hx285_0)
                have qi285 : (2 < t272.length) = True := eq_true (by omega)
                (try rw [show ((2 : Int)).toNat = 2 from rfl] at hx285_0)
                replace p285 := eq_true p285
                replace q285 := eq_true q285
                refine start_ (n := 14) (S := fun w' => w'.cell? ad283 = some (.int .i64 (rd t272 0)) ∧ w'.cell? ⟨ad283.block, ad283.off + 1, none⟩ = some (.int .i64 (rd t272 1)) ∧ w'.cell? ⟨ad283.block, ad283.off + 2, none⟩ = some (.int .i64 (rd t272 2))) (ds := []) #[false, false, false, false, false, false, false, false, false, false, false, false, false, false] (by kernel_rfl) rfl rfl ⟨hx283_0, hx284_0, hx285_0⟩ (fun hHeld => ?_); refine with_tabW rivuletref06_Get.tab10 rivuletref06_Get.bits10 (fun HT_ HW_ => ?_)
                generalize w17.drew = w18 at HO276 BK271 HB hx283_0 hx284_0 hx285_0 hHeld ⊢
                refine pure_ (i := 0) (N := some 50) (v := ?_) (a' := ?_) #[true, false, false, false, false, false, false, false, false, false, false, false, false, false] rfl rfl (any_of HT_.out (by kernel_rfl)) (fun _ _ _ h => h) (Or.inl ⟨by rfl, ?_⟩) ?_ ?_
                rotate_left
                · intro w'
                  go_simp
                  with_reducible rfl
                rotate_left
                · simp only [Act.put, List.setIfInBounds_toArray, List.set_cons_zero, List.set_cons_succ, i64_w, i32_w]
                  rfl
                refine pure_ (i := 1) (N := some 51) (v := ?_) (a' := ?_) #[true, true, false, false, false, false, false, false, false, false, false, false, false, false] rfl rfl (any_of HT_.out (by kernel_rfl)) (fun _ _ _ h => h) (Or.inl ⟨by rfl, ?_⟩) ?_ ?_
                rotate_left
                · intro w'
                  go_simp
                  with_reducible rfl
                rotate_left
                · simp only [Act.put, List.setIfInBounds_toArray, List.set_cons_zero, List.set_cons_succ, i64_w, i32_w]
                  rfl
                refine pure_ (i := 3) (N := some 53) (v := ?_) (a' := ?_) #[true, true, false, true, false, false, false, false, false, false, false, false, false, false] rfl rfl (any_of HT_.out (by kernel_rfl)) (fun _ _ _ h => h) (Or.inl ⟨by rfl, ?_⟩) ?_ ?_
                rotate_left
                · intro w'
                  go_simp
                  with_reducible rfl
                rotate_left
                · simp only [Act.put, List.setIfInBounds_toArray, List.set_cons_zero, List.set_cons_succ, i64_w, i32_w]
                  rfl
                refine pure_ (i := 4) (N := some 54) (v := ?_) (a' := ?_) #[true, true, false, true, true, false, false, false, false, false, false, false, false, false] rfl rfl (any_of HT_.out (by kernel_rfl)) (fun _ _ _ h => h) (Or.inl ⟨by rfl, ?_⟩) ?_ ?_
                rotate_left
                · intro w'
                  go_simp
                  with_reducible rfl
                rotate_left
                · simp only [Act.put, List.setIfInBounds_toArray, List.set_cons_zero, List.set_cons_succ, i64_w, i32_w]
                  rfl
                refine pure_ (i := 6) (N := some 56) (v := ?_) (a' := ?_) #[true, true, false, true, true, false, true, false, false, false, false, false, false, false] rfl rfl (any_of HT_.out (by kernel_rfl)) (fun _ _ _ h => h) (Or.inl ⟨by rfl, ?_⟩) ?_ ?_
                rotate_left
                · intro w'
                  go_simp
                  with_reducible rfl
                rotate_left
                · simp only [Act.put, List.setIfInBounds_toArray, List.set_cons_zero, List.set_cons_succ, i64_w, i32_w]
                  rfl
                refine pure_ (i := 7) (N := some 57) (v := ?_) (a' := ?_) #[true, true, false, true, true, false, true, true, false, false, false, false, false, false] rfl rfl (any_of HT_.out (by kernel_rfl)) (fun _ _ _ h => h) (Or.inl ⟨by rfl, ?_⟩) ?_ ?_
                rotate_left
                · intro w'
                  go_simp
                  with_reducible rfl
                rotate_left
                · simp only [Act.put, List.setIfInBounds_toArray, List.set_cons_zero, List.set_cons_succ, i64_w, i32_w]
                  rfl
                refine pure_ (i := 9) (N := some 59) (v := ?_) (a' := ?_) #[true, true, false, true, true, false, true, true, false, true, false, false, false, false] rfl rfl (any_of HT_.out (by kernel_rfl)) (fun _ _ _ h => h) (Or.inl ⟨by rfl, ?_⟩) ?_ ?_
                rotate_left
                · intro w'
                  go_simp
                  with_reducible rfl
                rotate_left
                · simp only [Act.put, List.setIfInBounds_toArray, List.set_cons_zero, List.set_cons_succ, i64_w, i32_w]
                  rfl
                refine pure_ (i := 10) (N := some 60) (v := ?_) (a' := ?_) #[true, true, false, true, true, false, true, true, false, true, true, false, false, false] rfl rfl (any_of HT_.out (by kernel_rfl)) (fun _ _ _ h => h) (Or.inl ⟨by rfl, ?_⟩) ?_ ?_
                rotate_left
                · intro w'
                  go_simp
                  with_reducible rfl
                rotate_left
                · simp only [Act.put, List.setIfInBounds_toArray, List.set_cons_zero, List.set_cons_succ, i64_w, i32_w]
                  rfl
                refine take_ (i := 2) (N := some 52) (v := ?_) (a' := ?_) #[true, true, true, true, true, false, true, true, false, true, true, false, false, false] rfl rfl (take_ofW HT_.out HW_.out (by kernel_rfl)) (fun _ _ _ h => h) (Or.inl ⟨by rfl, ?_⟩) hHeld ?_ ?_
                rotate_left
                · rintro w' ⟨s0, s1, s2⟩
                  go_simp
                  with_reducible rfl
                rotate_left
                · simp only [Act.put, List.setIfInBounds_toArray, List.set_cons_zero, List.set_cons_succ, i64_w, i32_w]
                  rfl
                refine take_ (i := 5) (N := some 55) (v := ?_) (a' := ?_) #[true, true, true, true, true, true, true, true, false, true, true, false, false, false] rfl rfl (take_ofW HT_.out HW_.out (by kernel_rfl)) (fun _ _ _ h => h) (Or.inl ⟨by rfl, ?_⟩) hHeld ?_ ?_
                rotate_left
                · rintro w' ⟨s0, s1, s2⟩
                  go_simp
                  with_reducible rfl
                rotate_left
                · simp only [Act.put, List.setIfInBounds_toArray, List.set_cons_zero, List.set_cons_succ, i64_w, i32_w]
                  rfl
                refine take_ (i := 8) (N := some 58) (v := ?_) (a' := ?_) #[true, true, true, true, true, true, true, true, true, true, true, false, false, false] rfl rfl (take_ofW HT_.out HW_.out (by kernel_rfl)) (fun _ _ _ h => h) (Or.inl ⟨by rfl, ?_⟩) hHeld ?_ ?_
                rotate_left
                · rintro w' ⟨s0, s1, s2⟩
                  go_simp
                  with_reducible rfl
                rotate_left
                · simp only [Act.put, List.setIfInBounds_toArray, List.set_cons_zero, List.set_cons_succ, i64_w, i32_w]
                  rfl
                refine pure_ (i := 11) (N := some 61) (v := ?_) (a' := ?_) #[true, true, true, true, true, true, true, true, true, true, true, true, false, false] rfl rfl (any_of HT_.out (by kernel_rfl)) (fun _ _ _ h => h) (Or.inl ⟨by rfl, ?_⟩) ?_ ?_
                rotate_left
                · intro w'
                  go_simp
                  with_reducible rfl
                rotate_left
                · simp only [Act.put, List.setIfInBounds_toArray, List.set_cons_zero, List.set_cons_succ, i64_w, i32_w]
                  rfl
                refine one_ (i := 12) (N := some 16) #[true, true, true, true, true, true, true, true, true, true, true, true, true, false] rfl rfl (one_of HT_.out (by kernel_rfl)) (by decide) (fun K hK => ?_)
                refine box_step ?hg (N := 16) ?hd (cs := #[.int .i64 0, .int .i64 0, .string (⟨#[]⟩ : ByteArray), .string (⟨#[]⟩ : ByteArray), .int .i64 0]) (t := 23) ?hr ?_; (case hd => rfl); (case hg => rfl); (case hr => first | (go_simp; done) | (go_simp; rfl))
                intro gb286 hg w20 hbox hb
                have HS0_ := (hb.cell (World.block_lt_of_cell? _ _ (hHeld.1))).trans (hHeld.1)
                have HS1_ := (hb.cell (World.block_lt_of_cell? _ _ (hHeld.2.1))).trans (hHeld.2.1)
                have HS2_ := (hb.cell (World.block_lt_of_cell? _ _ (hHeld.2.2))).trans (hHeld.2.2)
                have n0_ := Aside0.mk (Kd.R_below (by (with_reducible repeat (first | apply Kd.R_alloc | apply Kd.R_drewN | apply Kd.R_drew)); exact HO276.out) hb)
                have n1_ := Aside0.mk (blk_below (g := gb271) (o := .cells #[.int .i64 0, .int .i64 0, .string (⟨#[]⟩ : ByteArray), .string (⟨#[]⟩ : ByteArray), .int .i64 0] 23 (0, 0)) (by (with_reducible repeat (first | refine blk_drewN ?_ _ | refine blk_drew ?_ | refine blk_alloc ?_ _)); exact BK271.out) hb)
                have n2_ := Aside0.mk (below_step (by repeat (first | (with_reducible first | exact HB.out | apply below_alloc | apply pw_below_drewN | apply below_drew1 | refine below_set ?_ GE271.out) | exact HB.out)) hb)
                have n3_ := Aside0.mk (hbox)
                have n4_ := Aside0.mk ((by rw [hg]; exact (below_size (by repeat (first | (with_reducible first | exact HB.out | apply below_alloc | apply pw_below_drewN | apply below_drew1 | refine below_set ?_ GE271.out) | exact HB.out))) : w.heap.size ≤ gb286))
                have n5_ := Aside0.mk ((by rw [hg]; exact (below_size (by repeat (first | (with_reducible first | exact HB.out | apply below_alloc | apply pw_below_drewN | apply below_drew1 | refine below_set ?_ GE271.out) | exact HB.out))) : w.heap.size ≤ gb286))
                have n6_ := Aside0.mk ((by rw [hg]; exact Nat.ne_of_lt (blk_lt (g := gb271) (o := .cells #[.int .i64 0, .int .i64 0, .string (⟨#[]⟩ : ByteArray), .string (⟨#[]⟩ : ByteArray), .int .i64 0] 23 (0, 0)) (by (with_reducible repeat (first | refine blk_drewN ?_ _ | refine blk_drew ?_ | refine blk_alloc ?_ _)); exact BK271.out)) : gb271 ≠ gb286))
                have n7_ := Aside0.mk ((by rw [hg]; exact Nat.ne_of_gt (blk_lt (g := gb271) (o := .cells #[.int .i64 0, .int .i64 0, .string (⟨#[]⟩ : ByteArray), .string (⟨#[]⟩ : ByteArray), .int .i64 0] 23 (0, 0)) (by (with_reducible repeat (first | refine blk_drewN ?_ _ | refine blk_drew ?_ | refine blk_alloc ?_ _)); exact BK271.out)) : gb286 ≠ gb271))
                clear HO276
                clear BK271
                clear HB
                have HO276 := n0_
                have BK271 := n1_
                have HB := n2_
                have BK286 := n3_
                have GW286 := n4_
                have GE286 := n5_
                have NB271_286 := n6_
                have NB286_271 := n7_
                clear n0_ n1_ n2_ n3_ n4_ n5_ n6_ n7_
                clear hb hbox hg
                refine hK.out _ _ ⟨HS0_, HS1_, HS2_⟩ (fun hHeld => ?_)
                clear hK K
                refine norm_ (a' := ?_) ?_ ?_
                rotate_left
                · show Act.put _ (some 16) _ = _
                  simp only [Act.put, List.setIfInBounds_toArray, List.set_cons_zero, List.set_cons_succ, i64_w, i32_w]
                  rfl
                refine one_ (i := 13) (N := none) #[true, true, true, true, true, true, true, true, true, true, true, true, true, true] rfl rfl (one_of HT_.out (by kernel_rfl)) (by decide) (fun K hK => ?_)
                have hs21 : w20.cell? ⟨gb286, 0, none⟩ = some (.int .i64 0) := (blk_cell BK286.out 0).trans rfl
                have hfs21 := blk_frozen BK286.out 0
                have hns21_0 := NB271_286.out
                have hms21_0 := NB286_271.out
                have hs22 : w20.cell? ⟨gb286, 1, none⟩ = some (.int .i64 0) := (blk_cell BK286.out 1).trans rfl
                have hfs22 := blk_frozen BK286.out 1
                have hns22_0 := NB271_286.out
                have hms22_0 := NB286_271.out
                have hs23 : w20.cell? ⟨gb286, 2, none⟩ = some (.string (⟨#[]⟩ : ByteArray)) := (blk_cell BK286.out 2).trans rfl
                have hfs23 := blk_frozen BK286.out 2
                have hns23_0 := NB271_286.out
                have hms23_0 := NB286_271.out
                have hs24 : w20.cell? ⟨gb286, 3, none⟩ = some (.string (⟨#[]⟩ : ByteArray)) := (blk_cell BK286.out 3).trans rfl
                have hfs24 := blk_frozen BK286.out 3
                have hns24_0 := NB271_286.out
                have hms24_0 := NB286_271.out
                have hs25 : w20.cell? ⟨gb286, 4, none⟩ = some (.int .i64 0) := (blk_cell BK286.out 4).trans rfl
                have hfs25 := blk_frozen BK286.out 4
                have hns25_0 := NB271_286.out
                have hms25_0 := NB286_271.out
                refine skip_ (w1 := ?_) (by rfl) rfl ?_ ?_
                rotate_left
                · go_simp
                  rfl
                refine hK.out _ _ ⟨((cell_far (p := ⟨gb286, _, none⟩) (by first | exact Kd.own_blk (Kd.R_ne HO276.out BK286.out (by decide)) | (rw [add_block]; exact Kd.own_blk (Kd.R_ne HO276.out BK286.out (by decide))) | (show (Addr.add _ _).block ≠ _; rw [add_block]; exact Kd.own_blk (Kd.R_ne HO276.out BK286.out (by decide))) | (dsimp only; exact Kd.own_blk (Kd.R_ne HO276.out BK286.out (by decide)))) _).trans (((cell_far (p := ⟨gb286, _, none⟩) (by first | exact Kd.own_blk (Kd.R_ne HO276.out BK286.out (by decide)) | (rw [add_block]; exact Kd.own_blk (Kd.R_ne HO276.out BK286.out (by decide))) | (show (Addr.add _ _).block ≠ _; rw [add_block]; exact Kd.own_blk (Kd.R_ne HO276.out BK286.out (by decide))) | (dsimp only; exact Kd.own_blk (Kd.R_ne HO276.out BK286.out (by decide)))) _).trans (((cell_far (p := ⟨gb286, _, none⟩) (by first | exact Kd.own_blk (Kd.R_ne HO276.out BK286.out (by decide)) | (rw [add_block]; exact Kd.own_blk (Kd.R_ne HO276.out BK286.out (by decide))) | (show (Addr.add _ _).block ≠ _; rw [add_block]; exact Kd.own_blk (Kd.R_ne HO276.out BK286.out (by decide))) | (dsimp only; exact Kd.own_blk (Kd.R_ne HO276.out BK286.out (by decide)))) _).trans (((cell_far (p := ⟨gb286, _, none⟩) (by first | exact Kd.own_blk (Kd.R_ne HO276.out BK286.out (by decide)) | (rw [add_block]; exact Kd.own_blk (Kd.R_ne HO276.out BK286.out (by decide))) | (show (Addr.add _ _).block ≠ _; rw [add_block]; exact Kd.own_blk (Kd.R_ne HO276.out BK286.out (by decide))) | (dsimp only; exact Kd.own_blk (Kd.R_ne HO276.out BK286.out (by decide)))) _).trans (((cell_far (p := ⟨gb286, _, none⟩) (by first | exact Kd.own_blk (Kd.R_ne HO276.out BK286.out (by decide)) | (rw [add_block]; exact Kd.own_blk (Kd.R_ne HO276.out BK286.out (by decide))) | (show (Addr.add _ _).block ≠ _; rw [add_block]; exact Kd.own_blk (Kd.R_ne HO276.out BK286.out (by decide))) | (dsimp only; exact Kd.own_blk (Kd.R_ne HO276.out BK286.out (by decide)))) _).trans (hHeld.1)))))))))), ((cell_far (p := ⟨gb286, _, none⟩) (by first | exact Kd.own_blk (Kd.R_ne HO276.out BK286.out (by decide)) | (rw [add_block]; exact Kd.own_blk (Kd.R_ne HO276.out BK286.out (by decide))) | (show (Addr.add _ _).block ≠ _; rw [add_block]; exact Kd.own_blk (Kd.R_ne HO276.out BK286.out (by decide))) | (dsimp only; exact Kd.own_blk (Kd.R_ne HO276.out BK286.out (by decide)))) _).trans (((cell_far (p := ⟨gb286, _, none⟩) (by first | exact Kd.own_blk (Kd.R_ne HO276.out BK286.out (by decide)) | (rw [add_block]; exact Kd.own_blk (Kd.R_ne HO276.out BK286.out (by decide))) | (show (Addr.add _ _).block ≠ _; rw [add_block]; exact Kd.own_blk (Kd.R_ne HO276.out BK286.out (by decide))) | (dsimp only; exact Kd.own_blk (Kd.R_ne HO276.out BK286.out (by decide)))) _).trans (((cell_far (p := ⟨gb286, _, none⟩) (by first | exact Kd.own_blk (Kd.R_ne HO276.out BK286.out (by decide)) | (rw [add_block]; exact Kd.own_blk (Kd.R_ne HO276.out BK286.out (by decide))) | (show (Addr.add _ _).block ≠ _; rw [add_block]; exact Kd.own_blk (Kd.R_ne HO276.out BK286.out (by decide))) | (dsimp only; exact Kd.own_blk (Kd.R_ne HO276.out BK286.out (by decide)))) _).trans (((cell_far (p := ⟨gb286, _, none⟩) (by first | exact Kd.own_blk (Kd.R_ne HO276.out BK286.out (by decide)) | (rw [add_block]; exact Kd.own_blk (Kd.R_ne HO276.out BK286.out (by decide))) | (show (Addr.add _ _).block ≠ _; rw [add_block]; exact Kd.own_blk (Kd.R_ne HO276.out BK286.out (by decide))) | (dsimp only; exact Kd.own_blk (Kd.R_ne HO276.out BK286.out (by decide)))) _).trans (((cell_far (p := ⟨gb286, _, none⟩) (by first | exact Kd.own_blk (Kd.R_ne HO276.out BK286.out (by decide)) | (rw [add_block]; exact Kd.own_blk (Kd.R_ne HO276.out BK286.out (by decide))) | (show (Addr.add _ _).block ≠ _; rw [add_block]; exact Kd.own_blk (Kd.R_ne HO276.out BK286.out (by decide))) | (dsimp only; exact Kd.own_blk (Kd.R_ne HO276.out BK286.out (by decide)))) _).trans (hHeld.2.1)))))))))), ((cell_far (p := ⟨gb286, _, none⟩) (by first | exact Kd.own_blk (Kd.R_ne HO276.out BK286.out (by decide)) | (rw [add_block]; exact Kd.own_blk (Kd.R_ne HO276.out BK286.out (by decide))) | (show (Addr.add _ _).block ≠ _; rw [add_block]; exact Kd.own_blk (Kd.R_ne HO276.out BK286.out (by decide))) | (dsimp only; exact Kd.own_blk (Kd.R_ne HO276.out BK286.out (by decide)))) _).trans (((cell_far (p := ⟨gb286, _, none⟩) (by first | exact Kd.own_blk (Kd.R_ne HO276.out BK286.out (by decide)) | (rw [add_block]; exact Kd.own_blk (Kd.R_ne HO276.out BK286.out (by decide))) | (show (Addr.add _ _).block ≠ _; rw [add_block]; exact Kd.own_blk (Kd.R_ne HO276.out BK286.out (by decide))) | (dsimp only; exact Kd.own_blk (Kd.R_ne HO276.out BK286.out (by decide)))) _).trans (((cell_far (p := ⟨gb286, _, none⟩) (by first | exact Kd.own_blk (Kd.R_ne HO276.out BK286.out (by decide)) | (rw [add_block]; exact Kd.own_blk (Kd.R_ne HO276.out BK286.out (by decide))) | (show (Addr.add _ _).block ≠ _; rw [add_block]; exact Kd.own_blk (Kd.R_ne HO276.out BK286.out (by decide))) | (dsimp only; exact Kd.own_blk (Kd.R_ne HO276.out BK286.out (by decide)))) _).trans (((cell_far (p := ⟨gb286, _, none⟩) (by first | exact Kd.own_blk (Kd.R_ne HO276.out BK286.out (by decide)) | (rw [add_block]; exact Kd.own_blk (Kd.R_ne HO276.out BK286.out (by decide))) | (show (Addr.add _ _).block ≠ _; rw [add_block]; exact Kd.own_blk (Kd.R_ne HO276.out BK286.out (by decide))) | (dsimp only; exact Kd.own_blk (Kd.R_ne HO276.out BK286.out (by decide)))) _).trans (((cell_far (p := ⟨gb286, _, none⟩) (by first | exact Kd.own_blk (Kd.R_ne HO276.out BK286.out (by decide)) | (rw [add_block]; exact Kd.own_blk (Kd.R_ne HO276.out BK286.out (by decide))) | (show (Addr.add _ _).block ≠ _; rw [add_block]; exact Kd.own_blk (Kd.R_ne HO276.out BK286.out (by decide))) | (dsimp only; exact Kd.own_blk (Kd.R_ne HO276.out BK286.out (by decide)))) _).trans (hHeld.2.2))))))))))⟩ (fun hHeld => ?_)
                clear hK K
                refine done_ (done_of HT_.out (by kernel_rfl)) ?_
                have hnb26 := NB286_271.out
                have hnc26 := NB271_286.out
                have hcz27_0 : w20.cell? ⟨gb286, 0, none⟩ = some (.int .i64 0) := (blk_cell BK286.out 0).trans rfl
                have hcz27_1 : w20.cell? ⟨gb286, 1, none⟩ = some (.int .i64 0) := (blk_cell BK286.out 1).trans rfl
                have hcz27_2 : w20.cell? ⟨gb286, 2, none⟩ = some (.string (⟨#[]⟩ : ByteArray)) := (blk_cell BK286.out 2).trans rfl
                have hcz27_3 : w20.cell? ⟨gb286, 3, none⟩ = some (.string (⟨#[]⟩ : ByteArray)) := (blk_cell BK286.out 3).trans rfl
                have hcz27_4 : w20.cell? ⟨gb286, 4, none⟩ = some (.int .i64 0) := (blk_cell BK286.out 4).trans rfl
                have hfz27_0 := blk_frozen BK286.out 0
                have hfz27_1 := blk_frozen BK286.out 1
                have hfz27_2 := blk_frozen BK286.out 2
                have hfz27_3 := blk_frozen BK286.out 3
                have hfz27_4 := blk_frozen BK286.out 4
                try go_wp2_with (first | ((with_reducible refine gate_callee (f := 12) rfl ?_); refine goesL_ (some 63) rfl rfl Tryd.func12 (by kernel_rfl) rfl #[.agg #[.int .i64 (rd t272 0), .int .i64 (rd t272 1), .string t277, .string t280, .int .i64 (rd t272 2)]] rfl (by (try simp only [List.map_toArray, List.map_cons, List.map_nil]); first | done | rfl | (simp only [List.length_drop, List.length_take]; rfl)) ?_; (with_reducible refine (rivuletref06_Right.calls (rd t272 0) (rd t272 1) t277 t280 (rd t272 2) true _ A12.out).mono ?_); rintro e w28 ⟨rfl, hb⟩; refine ⟨_, rfl, ?_⟩; have n0_ := Aside0.mk (Kd.R_below (by (with_reducible repeat (first | apply Kd.R_alloc | apply Kd.R_drewN | apply Kd.R_drew)); exact (Kd.R_mono (Kd.R_far (p := ⟨gb286, 4, none⟩) (Kd.R_far (p := ⟨gb286, 3, none⟩) (Kd.R_far (p := ⟨gb286, 2, none⟩) (Kd.R_far (p := ⟨gb286, 1, none⟩) (Kd.R_far (p := ⟨gb286, 0, none⟩) (Kd.R_types HO276.out BK286.out (by decide)) (fun _ hk => hk.2) (.int .i64 (rd t272 0))) (fun _ hk => hk.2) (.int .i64 (rd t272 1))) (fun _ hk => hk.2) (.string t277)) (fun _ hk => hk.2) (.string t280)) (fun _ hk => hk.2) (.int .i64 (rd t272 2))) (fun _ h_ => h_.1))) hb); have n1_ := Aside0.mk (blk_below (g := gb271) (o := .cells #[.int .i64 0, .int .i64 0, .string (⟨#[]⟩ : ByteArray), .string (⟨#[]⟩ : ByteArray), .int .i64 0] 23 (0, 0)) (by (with_reducible repeat (first | refine blk_drewN ?_ _ | refine blk_drew ?_ | refine blk_alloc ?_ _)); refine blk_far ?_ NB271_286.out _; (with_reducible repeat (first | refine blk_drewN ?_ _ | refine blk_drew ?_ | refine blk_alloc ?_ _)); refine blk_far ?_ NB271_286.out _; (with_reducible repeat (first | refine blk_drewN ?_ _ | refine blk_drew ?_ | refine blk_alloc ?_ _)); refine blk_far ?_ NB271_286.out _; (with_reducible repeat (first | refine blk_drewN ?_ _ | refine blk_drew ?_ | refine blk_alloc ?_ _)); refine blk_far ?_ NB271_286.out _; (with_reducible repeat (first | refine blk_drewN ?_ _ | refine blk_drew ?_ | refine blk_alloc ?_ _)); refine blk_far ?_ NB271_286.out _; (with_reducible repeat (first | refine blk_drewN ?_ _ | refine blk_drew ?_ | refine blk_alloc ?_ _)); exact BK271.out) hb); have n2_ := Aside0.mk (blk_below (g := gb286) (o := .cells #[.int .i64 (rd t272 0), .int .i64 (rd t272 1), .string t277, .string t280, .int .i64 (rd t272 2)] 23 (0, 0)) (by (with_reducible repeat (first | refine blk_drewN ?_ _ | refine blk_drew ?_ | refine blk_alloc ?_ _)); refine blk_put (cs := #[.int .i64 (rd t272 0), .int .i64 (rd t272 1), .string t277, .string t280, .int .i64 0]) ?_ 4 _ rfl; (with_reducible repeat (first | refine blk_drewN ?_ _ | refine blk_drew ?_ | refine blk_alloc ?_ _)); refine blk_put (cs := #[.int .i64 (rd t272 0), .int .i64 (rd t272 1), .string t277, .string (⟨#[]⟩ : ByteArray), .int .i64 0]) ?_ 3 _ rfl; (with_reducible repeat (first | refine blk_drewN ?_ _ | refine blk_drew ?_ | refine blk_alloc ?_ _)); refine blk_put (cs := #[.int .i64 (rd t272 0), .int .i64 (rd t272 1), .string (⟨#[]⟩ : ByteArray), .string (⟨#[]⟩ : ByteArray), .int .i64 0]) ?_ 2 _ rfl; (with_reducible repeat (first | refine blk_drewN ?_ _ | refine blk_drew ?_ | refine blk_alloc ?_ _)); refine blk_put (cs := #[.int .i64 (rd t272 0), .int .i64 0, .string (⟨#[]⟩ : ByteArray), .string (⟨#[]⟩ : ByteArray), .int .i64 0]) ?_ 1 _ rfl; (with_reducible repeat (first | refine blk_drewN ?_ _ | refine blk_drew ?_ | refine blk_alloc ?_ _)); refine blk_put (cs := #[.int .i64 0, .int .i64 0, .string (⟨#[]⟩ : ByteArray), .string (⟨#[]⟩ : ByteArray), .int .i64 0]) ?_ 0 _ rfl; (with_reducible repeat (first | refine blk_drewN ?_ _ | refine blk_drew ?_ | refine blk_alloc ?_ _)); exact BK286.out) hb); have n3_ := Aside0.mk (below_step (by repeat (first | (with_reducible first | exact HB.out | apply below_alloc | apply pw_below_drewN | apply below_drew1 | refine below_set ?_ GE271.out | refine below_set ?_ GE286.out) | exact HB.out)) hb); clear HO276; clear BK271; clear BK286; clear HB; have HO276 := n0_; have BK271 := n1_; have BK286 := n2_; have HB := n3_; clear n0_ n1_ n2_ n3_; (try clear hb); (try clear hb2); (try clear hk); (try clear hi); have hcz29_0 : w28.cell? ⟨gb286, 0, none⟩ = some (.int .i64 (rd t272 0)) := (blk_cell BK286.out 0).trans rfl; have hcz29_1 : w28.cell? ⟨gb286, 1, none⟩ = some (.int .i64 (rd t272 1)) := (blk_cell BK286.out 1).trans rfl; have hcz29_2 : w28.cell? ⟨gb286, 2, none⟩ = some (.string t277) := (blk_cell BK286.out 2).trans rfl; have hcz29_3 : w28.cell? ⟨gb286, 3, none⟩ = some (.string t280) := (blk_cell BK286.out 3).trans rfl; have hcz29_4 : w28.cell? ⟨gb286, 4, none⟩ = some (.int .i64 (rd t272 2)) := (blk_cell BK286.out 4).trans rfl; have hfz29_0 := blk_frozen BK286.out 0; have hfz29_1 := blk_frozen BK286.out 1; have hfz29_2 := blk_frozen BK286.out 2; have hfz29_3 := blk_frozen BK286.out 3; have hfz29_4 := blk_frozen BK286.out 4; have hcz30_0 : w28.cell? ⟨gb271, 0, none⟩ = some (.int .i64 0) := (blk_cell BK271.out 0).trans rfl; have hcz30_1 : w28.cell? ⟨gb271, 1, none⟩ = some (.int .i64 0) := (blk_cell BK271.out 1).trans rfl; have hcz30_2 : w28.cell? ⟨gb271, 2, none⟩ = some (.string (⟨#[]⟩ : ByteArray)) := (blk_cell BK271.out 2).trans rfl; have hcz30_3 : w28.cell? ⟨gb271, 3, none⟩ = some (.string (⟨#[]⟩ : ByteArray)) := (blk_cell BK271.out 3).trans rfl; have hcz30_4 : w28.cell? ⟨gb271, 4, none⟩ = some (.int .i64 0) := (blk_cell BK271.out 4).trans rfl; have hfz30_0 := blk_frozen BK271.out 0; have hfz30_1 := blk_frozen BK271.out 1; have hfz30_2 := blk_frozen BK271.out 2; have hfz30_3 := blk_frozen BK271.out 3; have hfz30_4 := blk_frozen BK271.out 4))
                refine bodyPost_ret (results_ctt rfl _ _ gb271 23 #[.int .i64 (rd t272 0), .int .i64 (rd t272 1), .string t277, .string t280, .int .i64 (rd t272 2)] (0, 0) _ rfl (by (with_reducible repeat (first | refine blk_drewN ?_ _ | refine blk_drew ?_ | refine blk_alloc ?_ _)); refine blk_put (cs := #[.int .i64 (rd t272 0), .int .i64 (rd t272 1), .string t277, .string t280, .int .i64 0]) ?_ 4 _ rfl; (with_reducible repeat (first | refine blk_drewN ?_ _ | refine blk_drew ?_ | refine blk_alloc ?_ _)); refine blk_put (cs := #[.int .i64 (rd t272 0), .int .i64 (rd t272 1), .string t277, .string (⟨#[]⟩ : ByteArray), .int .i64 0]) ?_ 3 _ rfl; (with_reducible repeat (first | refine blk_drewN ?_ _ | refine blk_drew ?_ | refine blk_alloc ?_ _)); refine blk_put (cs := #[.int .i64 (rd t272 0), .int .i64 (rd t272 1), .string (⟨#[]⟩ : ByteArray), .string (⟨#[]⟩ : ByteArray), .int .i64 0]) ?_ 2 _ rfl; (with_reducible repeat (first | refine blk_drewN ?_ _ | refine blk_drew ?_ | refine blk_alloc ?_ _)); refine blk_put (cs := #[.int .i64 (rd t272 0), .int .i64 0, .string (⟨#[]⟩ : ByteArray), .string (⟨#[]⟩ : ByteArray), .int .i64 0]) ?_ 1 _ rfl; (with_reducible repeat (first | refine blk_drewN ?_ _ | refine blk_drew ?_ | refine blk_alloc ?_ _)); refine blk_put (cs := #[.int .i64 0, .int .i64 0, .string (⟨#[]⟩ : ByteArray), .string (⟨#[]⟩ : ByteArray), .int .i64 0]) ?_ 0 _ rfl; (with_reducible repeat (first | refine blk_drewN ?_ _ | refine blk_drew ?_ | refine blk_alloc ?_ _)); exact BK271.out) Tryd.underlying23 rfl (by kernel_rfl)) rfl ?_
                exact ⟨by first | rfl | (simp [errW_none, errW_some] <;> rfl) | (simp [*, errW_none, errW_some] <;> rfl), by repeat (first | (with_reducible first | exact HB.out | apply below_alloc | apply pw_below_drewN | apply below_drew1 | refine below_set ?_ GE271.out | refine below_set ?_ GE286.out) | exact HB.out)⟩
              · replace c13 := Bool.eq_false_iff.mpr c13
                subst c13
                have H1 : (some (0, 0, (⟨#[]⟩ : ByteArray), (⟨#[]⟩ : ByteArray), 0, 0, 4)) = some (r1, r2, r3, r4, r5, r6, r7) := by rw [if_neg (show ¬ (false = true) by decide)] at H; exact H
                clear H
                have H := H1
                clear H1
                simp only [Option.some.injEq, Prod.mk.injEq] at H
                obtain ⟨rfl, rfl, rfl, rfl, rfl, rfl, rfl⟩ := H
                go_enter Tryd.func23, Tryd.ntmps23
                try go_wp2_with (first | ((with_reducible refine gate_dst (N := 4) rfl ?_); refine box_event ?hg (N := 4) ?hd (cs := #[.int .i64 0, .int .i64 0, .string (⟨#[]⟩ : ByteArray), .string (⟨#[]⟩ : ByteArray), .int .i64 0]) (t := 23) ?hr ?_; (case hd => rfl); (case hg => rfl); (case hr => first | (go_simp; done) | (go_simp; rfl)); intro gb271 hg w31 hbox hb; have n0_ := Aside0.mk (below_step (by repeat (first | (with_reducible first | exact HB.out | apply below_alloc | apply pw_below_drewN | apply below_drew1) | exact HB.out)) hb); have n1_ := Aside0.mk (hbox); have n2_ := Aside0.mk ((by rw [hg]; exact (below_size (by repeat (first | (with_reducible first | exact HB.out | apply below_alloc | apply pw_below_drewN | apply below_drew1) | exact HB.out))) : w.heap.size ≤ gb271)); have n3_ := Aside0.mk ((by rw [hg]; exact (below_size (by repeat (first | (with_reducible first | exact HB.out | apply below_alloc | apply pw_below_drewN | apply below_drew1) | exact HB.out))) : w.heap.size ≤ gb271)); clear HB; have HB := n0_; have BK271 := n1_; have GW271 := n2_; have GE271 := n3_; clear n0_ n1_ n2_ n3_; clear hb hbox hg) | ((with_reducible refine gate_callee (f := 42) rfl ?_); refine goesL_ (some 20) rfl rfl Tryd.func42 (by kernel_rfl) rfl #[.string a0, .int .i64 a1, .int .i64 3] rfl (by (try simp only [List.map_toArray, List.map_cons, List.map_nil]); first | done | rfl | (simp only [List.length_drop, List.length_take]; rfl)) ?_; (with_reducible refine (rivuletref06_nums.calls k a0 a1 3 t272 t273 t274 _ A3.out).mono ?_); rintro e w32 ⟨v275, rfl, ho0, hb⟩; refine ⟨_, rfl, ?_⟩; have n0_ := Aside0.mk (Kd.R_lower ho0 (below_size (by repeat (first | (with_reducible first | exact HB.out | apply below_alloc | apply pw_below_drewN | apply below_drew1 | refine below_set ?_ GE271.out) | exact HB.out)))); have n1_ := Aside0.mk (blk_below (g := gb271) (o := .cells #[.int .i64 0, .int .i64 0, .string (⟨#[]⟩ : ByteArray), .string (⟨#[]⟩ : ByteArray), .int .i64 0] 23 (0, 0)) (by (with_reducible repeat (first | refine blk_drewN ?_ _ | refine blk_drew ?_ | refine blk_alloc ?_ _)); exact BK271.out) hb); have n2_ := Aside0.mk (below_step (by repeat (first | (with_reducible first | exact HB.out | apply below_alloc | apply pw_below_drewN | apply below_drew1 | refine below_set ?_ GE271.out) | exact HB.out)) hb); clear BK271; clear HB; have HO276 := n0_; have BK271 := n1_; have HB := n2_; clear n0_ n1_ n2_; (try clear hb); (try clear hb2); (try clear hk); (try clear hi); (try clear ho0)) | ((with_reducible refine gate_callee (f := 43) rfl ?_); refine goesL_ (some 31) rfl rfl Tryd.func43 (by kernel_rfl) rfl #[.string a0, .int .i64 t273] rfl (by (try simp only [List.map_toArray, List.map_cons, List.map_nil]); first | done | rfl | (simp only [List.length_drop, List.length_take]; rfl)) ?_; (with_reducible refine (rivuletref01_Cut.calls a0 t273 t277 t278 t279 _ A5.out).mono ?_); rintro e w33 ⟨rfl, hb⟩; refine ⟨_, rfl, ?_⟩; have n0_ := Aside0.mk (Kd.R_below (by (with_reducible repeat (first | apply Kd.R_alloc | apply Kd.R_drewN | apply Kd.R_drew)); exact HO276.out) hb); have n1_ := Aside0.mk (blk_below (g := gb271) (o := .cells #[.int .i64 0, .int .i64 0, .string (⟨#[]⟩ : ByteArray), .string (⟨#[]⟩ : ByteArray), .int .i64 0] 23 (0, 0)) (by (with_reducible repeat (first | refine blk_drewN ?_ _ | refine blk_drew ?_ | refine blk_alloc ?_ _)); exact BK271.out) hb); have n2_ := Aside0.mk (below_step (by repeat (first | (with_reducible first | exact HB.out | apply below_alloc | apply pw_below_drewN | apply below_drew1 | refine below_set ?_ GE271.out) | exact HB.out)) hb); clear HO276; clear BK271; clear HB; have HO276 := n0_; have BK271 := n1_; have HB := n2_; clear n0_ n1_ n2_; (try clear hb); (try clear hb2); (try clear hk); (try clear hi)) | ((with_reducible refine gate_callee (f := 43) rfl ?_); refine goesL_ (some 42) rfl rfl Tryd.func43 (by kernel_rfl) rfl #[.string a0, .int .i64 t278] rfl (by (try simp only [List.map_toArray, List.map_cons, List.map_nil]); first | done | rfl | (simp only [List.length_drop, List.length_take]; rfl)) ?_; (with_reducible refine (rivuletref01_Cut.calls a0 t278 t280 t281 t282 _ A7.out).mono ?_); rintro e w34 ⟨rfl, hb⟩; refine ⟨_, rfl, ?_⟩; have n0_ := Aside0.mk (Kd.R_below (by (with_reducible repeat (first | apply Kd.R_alloc | apply Kd.R_drewN | apply Kd.R_drew)); exact HO276.out) hb); have n1_ := Aside0.mk (blk_below (g := gb271) (o := .cells #[.int .i64 0, .int .i64 0, .string (⟨#[]⟩ : ByteArray), .string (⟨#[]⟩ : ByteArray), .int .i64 0] 23 (0, 0)) (by (with_reducible repeat (first | refine blk_drewN ?_ _ | refine blk_drew ?_ | refine blk_alloc ?_ _)); exact BK271.out) hb); have n2_ := Aside0.mk (below_step (by repeat (first | (with_reducible first | exact HB.out | apply below_alloc | apply pw_below_drewN | apply below_drew1 | refine below_set ?_ GE271.out) | exact HB.out)) hb); clear HO276; clear BK271; clear HB; have HO276 := n0_; have BK271 := n1_; have HB := n2_; clear n0_ n1_ n2_; (try clear hb); (try clear hb2); (try clear hk); (try clear hi)))
                have n0_ := Aside0.mk (Kd.R_drew HO276.out)
                have n1_ := Aside0.mk (blk_drew BK271.out)
                have n2_ := Aside0.mk (below_drew1 HB.out)
                clear HO276
                clear BK271
                clear HB
                have HO276 := n0_
                have BK271 := n1_
                have HB := n2_
                clear n0_ n1_ n2_
                obtain ⟨Ao36, co36, eo36⟩ := Kd.R_slice HO276.out
                (first | subst eo36 | (injection eo36 with f1_ f2_ f3_; have f4_ := f1_.symm; have f5_ := f3_.symm; clear f1_ f2_ f3_; subst f4_; subst f5_))
                have p283 : 0 ≤ (0 : Int) := (by omega)
                have q283 : 0 < (t272.length : Int) := of_decide_eq_true (by first | (with_reducible assumption) | assumption)
                obtain ⟨ad283, e283, hx283_0⟩ := Kd.at_int (Kd.R_reads' HO276.out).2.2 0 p283 q283
                cases e283
                have qi283 : (0 < t272.length) = True := eq_true (by omega)
                (try rw [show ((0 : Int)).toNat = 0 from rfl] at hx283_0)
                (try rw [Addr.add_zero'] at hx283_0)
                replace p283 := eq_true p283
                replace q283 := eq_true q283
                have p284 : 0 ≤ (1 : Int) := (by omega)
                have q284 : 1 < (t272.length : Int) := of_decide_eq_true (by first | (with_reducible assumption) | assumption)
                obtain ⟨ad284, e284, hx284_0⟩ := Kd.at_int (Kd.R_reads' HO276.out).2.2 1 p284 q284
                obtain rfl : ad283 = ad284 := (by injection e284)
                (try simp only [show (1 : Int).toNat = 1 from rfl, Nat.reduceMul, Nat.reduceEqDiff, Go.Addr.add, ↓reduceIte] at hx284_0)
                have qi284 : (1 < t272.length) = True := eq_true (by omega)
                (try rw [show ((1 : Int)).toNat = 1 from rfl] at hx284_0)
                replace p284 := eq_true p284
                replace q284 := eq_true q284
                have p285 : 0 ≤ (2 : Int) := (by omega)
                have q285 : 2 < (t272.length : Int) := of_decide_eq_true (by first | (with_reducible assumption) | assumption)
                obtain ⟨ad285, e285, hx285_0⟩ := Kd.at_int (Kd.R_reads' HO276.out).2.2 2 p285 q285
                obtain rfl : ad283 = ad285 := (by injection e285)
                (try simp only [show (2 : Int).toNat = 2 from rfl, Nat.reduceMul, Nat.reduceEqDiff, Go.Addr.add, ↓reduceIte] at hx285_0)
                have qi285 : (2 < t272.length) = True := eq_true (by omega)
                (try rw [show ((2 : Int)).toNat = 2 from rfl] at hx285_0)
                replace p285 := eq_true p285
                replace q285 := eq_true q285
                refine start_ (n := 14) (S := fun w' => w'.cell? ad283 = some (.int .i64 (rd t272 0)) ∧ w'.cell? ⟨ad283.block, ad283.off + 1, none⟩ = some (.int .i64 (rd t272 1)) ∧ w'.cell? ⟨ad283.block, ad283.off + 2, none⟩ = some (.int .i64 (rd t272 2))) (ds := []) #[false, false, false, false, false, false, false, false, false, false, false, false, false, false] (by kernel_rfl) rfl rfl ⟨hx283_0, hx284_0, hx285_0⟩ (fun hHeld => ?_); refine with_tabW rivuletref06_Get.tab10 rivuletref06_Get.bits10 (fun HT_ HW_ => ?_)
                generalize w34.drew = w35 at HO276 BK271 HB hx283_0 hx284_0 hx285_0 hHeld ⊢
                refine pure_ (i := 0) (N := some 50) (v := ?_) (a' := ?_) #[true, false, false, false, false, false, false, false, false, false, false, false, false, false] rfl rfl (any_of HT_.out (by kernel_rfl)) (fun _ _ _ h => h) (Or.inl ⟨by rfl, ?_⟩) ?_ ?_
                rotate_left
                · intro w'
                  go_simp
                  with_reducible rfl
                rotate_left
                · simp only [Act.put, List.setIfInBounds_toArray, List.set_cons_zero, List.set_cons_succ, i64_w, i32_w]
                  rfl
                refine pure_ (i := 1) (N := some 51) (v := ?_) (a' := ?_) #[true, true, false, false, false, false, false, false, false, false, false, false, false, false] rfl rfl (any_of HT_.out (by kernel_rfl)) (fun _ _ _ h => h) (Or.inl ⟨by rfl, ?_⟩) ?_ ?_
                rotate_left
                · intro w'
                  go_simp
                  with_reducible rfl
                rotate_left
                · simp only [Act.put, List.setIfInBounds_toArray, List.set_cons_zero, List.set_cons_succ, i64_w, i32_w]
                  rfl
                refine pure_ (i := 3) (N := some 53) (v := ?_) (a' := ?_) #[true, true, false, true, false, false, false, false, false, false, false, false, false, false] rfl rfl (any_of HT_.out (by kernel_rfl)) (fun _ _ _ h => h) (Or.inl ⟨by rfl, ?_⟩) ?_ ?_
                rotate_left
                · intro w'
                  go_simp
                  with_reducible rfl
                rotate_left
                · simp only [Act.put, List.setIfInBounds_toArray, List.set_cons_zero, List.set_cons_succ, i64_w, i32_w]
                  rfl
                refine pure_ (i := 4) (N := some 54) (v := ?_) (a' := ?_) #[true, true, false, true, true, false, false, false, false, false, false, false, false, false] rfl rfl (any_of HT_.out (by kernel_rfl)) (fun _ _ _ h => h) (Or.inl ⟨by rfl, ?_⟩) ?_ ?_
                rotate_left
                · intro w'
                  go_simp
                  with_reducible rfl
                rotate_left
                · simp only [Act.put, List.setIfInBounds_toArray, List.set_cons_zero, List.set_cons_succ, i64_w, i32_w]
                  rfl
                refine pure_ (i := 6) (N := some 56) (v := ?_) (a' := ?_) #[true, true, false, true, true, false, true, false, false, false, false, false, false, false] rfl rfl (any_of HT_.out (by kernel_rfl)) (fun _ _ _ h => h) (Or.inl ⟨by rfl, ?_⟩) ?_ ?_
                rotate_left
                · intro w'
                  go_simp
                  with_reducible rfl
                rotate_left
                · simp only [Act.put, List.setIfInBounds_toArray, List.set_cons_zero, List.set_cons_succ, i64_w, i32_w]
                  rfl
                refine pure_ (i := 7) (N := some 57) (v := ?_) (a' := ?_) #[true, true, false, true, true, false, true, true, false, false, false, false, false, false] rfl rfl (any_of HT_.out (by kernel_rfl)) (fun _ _ _ h => h) (Or.inl ⟨by rfl, ?_⟩) ?_ ?_
                rotate_left
                · intro w'
                  go_simp
                  with_reducible rfl
                rotate_left
                · simp only [Act.put, List.setIfInBounds_toArray, List.set_cons_zero, List.set_cons_succ, i64_w, i32_w]
                  rfl
                refine pure_ (i := 9) (N := some 59) (v := ?_) (a' := ?_) #[true, true, false, true, true, false, true, true, false, true, false, false, false, false] rfl rfl (any_of HT_.out (by kernel_rfl)) (fun _ _ _ h => h) (Or.inl ⟨by rfl, ?_⟩) ?_ ?_
                rotate_left
                · intro w'
                  go_simp
                  with_reducible rfl
                rotate_left
                · simp only [Act.put, List.setIfInBounds_toArray, List.set_cons_zero, List.set_cons_succ, i64_w, i32_w]
                  rfl
                refine pure_ (i := 10) (N := some 60) (v := ?_) (a' := ?_) #[true, true, false, true, true, false, true, true, false, true, true, false, false, false] rfl rfl (any_of HT_.out (by kernel_rfl)) (fun _ _ _ h => h) (Or.inl ⟨by rfl, ?_⟩) ?_ ?_
                rotate_left
                · intro w'
                  go_simp
                  with_reducible rfl
                rotate_left
                · simp only [Act.put, List.setIfInBounds_toArray, List.set_cons_zero, List.set_cons_succ, i64_w, i32_w]
                  rfl
                refine take_ (i := 2) (N := some 52) (v := ?_) (a' := ?_) #[true, true, true, true, true, false, true, true, false, true, true, false, false, false] rfl rfl (take_ofW HT_.out HW_.out (by kernel_rfl)) (fun _ _ _ h => h) (Or.inl ⟨by rfl, ?_⟩) hHeld ?_ ?_
                rotate_left
                · rintro w' ⟨s0, s1, s2⟩
                  go_simp
                  with_reducible rfl
                rotate_left
                · simp only [Act.put, List.setIfInBounds_toArray, List.set_cons_zero, List.set_cons_succ, i64_w, i32_w]
                  rfl
                refine take_ (i := 5) (N := some 55) (v := ?_) (a' := ?_) #[true, true, true, true, true, true, true, true, false, true, true, false, false, false] rfl rfl (take_ofW HT_.out HW_.out (by kernel_rfl)) (fun _ _ _ h => h) (Or.inl ⟨by rfl, ?_⟩) hHeld ?_ ?_
                rotate_left
                · rintro w' ⟨s0, s1, s2⟩
                  go_simp
                  with_reducible rfl
                rotate_left
                · simp only [Act.put, List.setIfInBounds_toArray, List.set_cons_zero, List.set_cons_succ, i64_w, i32_w]
                  rfl
                refine take_ (i := 8) (N := some 58) (v := ?_) (a' := ?_) #[true, true, true, true, true, true, true, true, true, true, true, false, false, false] rfl rfl (take_ofW HT_.out HW_.out (by kernel_rfl)) (fun _ _ _ h => h) (Or.inl ⟨by rfl, ?_⟩) hHeld ?_ ?_
                rotate_left
                · rintro w' ⟨s0, s1, s2⟩
                  go_simp
                  with_reducible rfl
                rotate_left
                · simp only [Act.put, List.setIfInBounds_toArray, List.set_cons_zero, List.set_cons_succ, i64_w, i32_w]
                  rfl
                refine pure_ (i := 11) (N := some 61) (v := ?_) (a' := ?_) #[true, true, true, true, true, true, true, true, true, true, true, true, false, false] rfl rfl (any_of HT_.out (by kernel_rfl)) (fun _ _ _ h => h) (Or.inl ⟨by rfl, ?_⟩) ?_ ?_
                rotate_left
                · intro w'
                  go_simp
                  with_reducible rfl
                rotate_left
                · simp only [Act.put, List.setIfInBounds_toArray, List.set_cons_zero, List.set_cons_succ, i64_w, i32_w]
                  rfl
                refine one_ (i := 12) (N := some 16) #[true, true, true, true, true, true, true, true, true, true, true, true, true, false] rfl rfl (one_of HT_.out (by kernel_rfl)) (by decide) (fun K hK => ?_)
                refine box_step ?hg (N := 16) ?hd (cs := #[.int .i64 0, .int .i64 0, .string (⟨#[]⟩ : ByteArray), .string (⟨#[]⟩ : ByteArray), .int .i64 0]) (t := 23) ?hr ?_; (case hd => rfl); (case hg => rfl); (case hr => first | (go_simp; done) | (go_simp; rfl))
                intro gb286 hg w37 hbox hb
                have HS0_ := (hb.cell (World.block_lt_of_cell? _ _ (hHeld.1))).trans (hHeld.1)
                have HS1_ := (hb.cell (World.block_lt_of_cell? _ _ (hHeld.2.1))).trans (hHeld.2.1)
                have HS2_ := (hb.cell (World.block_lt_of_cell? _ _ (hHeld.2.2))).trans (hHeld.2.2)
                have n0_ := Aside0.mk (Kd.R_below (by (with_reducible repeat (first | apply Kd.R_alloc | apply Kd.R_drewN | apply Kd.R_drew)); exact HO276.out) hb)
                have n1_ := Aside0.mk (blk_below (g := gb271) (o := .cells #[.int .i64 0, .int .i64 0, .string (⟨#[]⟩ : ByteArray), .string (⟨#[]⟩ : ByteArray), .int .i64 0] 23 (0, 0)) (by (with_reducible repeat (first | refine blk_drewN ?_ _ | refine blk_drew ?_ | refine blk_alloc ?_ _)); exact BK271.out) hb)
                have n2_ := Aside0.mk (below_step (by repeat (first | (with_reducible first | exact HB.out | apply below_alloc | apply pw_below_drewN | apply below_drew1 | refine below_set ?_ GE271.out) | exact HB.out)) hb)
                have n3_ := Aside0.mk (hbox)
                have n4_ := Aside0.mk ((by rw [hg]; exact (below_size (by repeat (first | (with_reducible first | exact HB.out | apply below_alloc | apply pw_below_drewN | apply below_drew1 | refine below_set ?_ GE271.out) | exact HB.out))) : w.heap.size ≤ gb286))
                have n5_ := Aside0.mk ((by rw [hg]; exact (below_size (by repeat (first | (with_reducible first | exact HB.out | apply below_alloc | apply pw_below_drewN | apply below_drew1 | refine below_set ?_ GE271.out) | exact HB.out))) : w.heap.size ≤ gb286))
                have n6_ := Aside0.mk ((by rw [hg]; exact Nat.ne_of_lt (blk_lt (g := gb271) (o := .cells #[.int .i64 0, .int .i64 0, .string (⟨#[]⟩ : ByteArray), .string (⟨#[]⟩ : ByteArray), .int .i64 0] 23 (0, 0)) (by (with_reducible repeat (first | refine blk_drewN ?_ _ | refine blk_drew ?_ | refine blk_alloc ?_ _)); exact BK271.out)) : gb271 ≠ gb286))
                have n7_ := Aside0.mk ((by rw [hg]; exact Nat.ne_of_gt (blk_lt (g := gb271) (o := .cells #[.int .i64 0, .int .i64 0, .string (⟨#[]⟩ : ByteArray), .string (⟨#[]⟩ : ByteArray), .int .i64 0] 23 (0, 0)) (by (with_reducible repeat (first | refine blk_drewN ?_ _ | refine blk_drew ?_ | refine blk_alloc ?_ _)); exact BK271.out)) : gb286 ≠ gb271))
                clear HO276
                clear BK271
                clear HB
                have HO276 := n0_
                have BK271 := n1_
                have HB := n2_
                have BK286 := n3_
                have GW286 := n4_
                have GE286 := n5_
                have NB271_286 := n6_
                have NB286_271 := n7_
                clear n0_ n1_ n2_ n3_ n4_ n5_ n6_ n7_
                clear hb hbox hg
                refine hK.out _ _ ⟨HS0_, HS1_, HS2_⟩ (fun hHeld => ?_)
                clear hK K
                refine norm_ (a' := ?_) ?_ ?_
                rotate_left
                · show Act.put _ (some 16) _ = _
                  simp only [Act.put, List.setIfInBounds_toArray, List.set_cons_zero, List.set_cons_succ, i64_w, i32_w]
                  rfl
                refine one_ (i := 13) (N := none) #[true, true, true, true, true, true, true, true, true, true, true, true, true, true] rfl rfl (one_of HT_.out (by kernel_rfl)) (by decide) (fun K hK => ?_)
                have hs38 : w37.cell? ⟨gb286, 0, none⟩ = some (.int .i64 0) := (blk_cell BK286.out 0).trans rfl
                have hfs38 := blk_frozen BK286.out 0
                have hns38_0 := NB271_286.out
                have hms38_0 := NB286_271.out
                have hs39 : w37.cell? ⟨gb286, 1, none⟩ = some (.int .i64 0) := (blk_cell BK286.out 1).trans rfl
                have hfs39 := blk_frozen BK286.out 1
                have hns39_0 := NB271_286.out
                have hms39_0 := NB286_271.out
                have hs40 : w37.cell? ⟨gb286, 2, none⟩ = some (.string (⟨#[]⟩ : ByteArray)) := (blk_cell BK286.out 2).trans rfl
                have hfs40 := blk_frozen BK286.out 2
                have hns40_0 := NB271_286.out
                have hms40_0 := NB286_271.out
                have hs41 : w37.cell? ⟨gb286, 3, none⟩ = some (.string (⟨#[]⟩ : ByteArray)) := (blk_cell BK286.out 3).trans rfl
                have hfs41 := blk_frozen BK286.out 3
                have hns41_0 := NB271_286.out
                have hms41_0 := NB286_271.out
                have hs42 : w37.cell? ⟨gb286, 4, none⟩ = some (.int .i64 0) := (blk_cell BK286.out 4).trans rfl
                have hfs42 := blk_frozen BK286.out 4
                have hns42_0 := NB271_286.out
                have hms42_0 := NB286_271.out
                refine skip_ (w1 := ?_) (by rfl) rfl ?_ ?_
                rotate_left
                · go_simp
                  rfl
                refine hK.out _ _ ⟨((cell_far (p := ⟨gb286, _, none⟩) (by first | exact Kd.own_blk (Kd.R_ne HO276.out BK286.out (by decide)) | (rw [add_block]; exact Kd.own_blk (Kd.R_ne HO276.out BK286.out (by decide))) | (show (Addr.add _ _).block ≠ _; rw [add_block]; exact Kd.own_blk (Kd.R_ne HO276.out BK286.out (by decide))) | (dsimp only; exact Kd.own_blk (Kd.R_ne HO276.out BK286.out (by decide)))) _).trans (((cell_far (p := ⟨gb286, _, none⟩) (by first | exact Kd.own_blk (Kd.R_ne HO276.out BK286.out (by decide)) | (rw [add_block]; exact Kd.own_blk (Kd.R_ne HO276.out BK286.out (by decide))) | (show (Addr.add _ _).block ≠ _; rw [add_block]; exact Kd.own_blk (Kd.R_ne HO276.out BK286.out (by decide))) | (dsimp only; exact Kd.own_blk (Kd.R_ne HO276.out BK286.out (by decide)))) _).trans (((cell_far (p := ⟨gb286, _, none⟩) (by first | exact Kd.own_blk (Kd.R_ne HO276.out BK286.out (by decide)) | (rw [add_block]; exact Kd.own_blk (Kd.R_ne HO276.out BK286.out (by decide))) | (show (Addr.add _ _).block ≠ _; rw [add_block]; exact Kd.own_blk (Kd.R_ne HO276.out BK286.out (by decide))) | (dsimp only; exact Kd.own_blk (Kd.R_ne HO276.out BK286.out (by decide)))) _).trans (((cell_far (p := ⟨gb286, _, none⟩) (by first | exact Kd.own_blk (Kd.R_ne HO276.out BK286.out (by decide)) | (rw [add_block]; exact Kd.own_blk (Kd.R_ne HO276.out BK286.out (by decide))) | (show (Addr.add _ _).block ≠ _; rw [add_block]; exact Kd.own_blk (Kd.R_ne HO276.out BK286.out (by decide))) | (dsimp only; exact Kd.own_blk (Kd.R_ne HO276.out BK286.out (by decide)))) _).trans (((cell_far (p := ⟨gb286, _, none⟩) (by first | exact Kd.own_blk (Kd.R_ne HO276.out BK286.out (by decide)) | (rw [add_block]; exact Kd.own_blk (Kd.R_ne HO276.out BK286.out (by decide))) | (show (Addr.add _ _).block ≠ _; rw [add_block]; exact Kd.own_blk (Kd.R_ne HO276.out BK286.out (by decide))) | (dsimp only; exact Kd.own_blk (Kd.R_ne HO276.out BK286.out (by decide)))) _).trans (hHeld.1)))))))))), ((cell_far (p := ⟨gb286, _, none⟩) (by first | exact Kd.own_blk (Kd.R_ne HO276.out BK286.out (by decide)) | (rw [add_block]; exact Kd.own_blk (Kd.R_ne HO276.out BK286.out (by decide))) | (show (Addr.add _ _).block ≠ _; rw [add_block]; exact Kd.own_blk (Kd.R_ne HO276.out BK286.out (by decide))) | (dsimp only; exact Kd.own_blk (Kd.R_ne HO276.out BK286.out (by decide)))) _).trans (((cell_far (p := ⟨gb286, _, none⟩) (by first | exact Kd.own_blk (Kd.R_ne HO276.out BK286.out (by decide)) | (rw [add_block]; exact Kd.own_blk (Kd.R_ne HO276.out BK286.out (by decide))) | (show (Addr.add _ _).block ≠ _; rw [add_block]; exact Kd.own_blk (Kd.R_ne HO276.out BK286.out (by decide))) | (dsimp only; exact Kd.own_blk (Kd.R_ne HO276.out BK286.out (by decide)))) _).trans (((cell_far (p := ⟨gb286, _, none⟩) (by first | exact Kd.own_blk (Kd.R_ne HO276.out BK286.out (by decide)) | (rw [add_block]; exact Kd.own_blk (Kd.R_ne HO276.out BK286.out (by decide))) | (show (Addr.add _ _).block ≠ _; rw [add_block]; exact Kd.own_blk (Kd.R_ne HO276.out BK286.out (by decide))) | (dsimp only; exact Kd.own_blk (Kd.R_ne HO276.out BK286.out (by decide)))) _).trans (((cell_far (p := ⟨gb286, _, none⟩) (by first | exact Kd.own_blk (Kd.R_ne HO276.out BK286.out (by decide)) | (rw [add_block]; exact Kd.own_blk (Kd.R_ne HO276.out BK286.out (by decide))) | (show (Addr.add _ _).block ≠ _; rw [add_block]; exact Kd.own_blk (Kd.R_ne HO276.out BK286.out (by decide))) | (dsimp only; exact Kd.own_blk (Kd.R_ne HO276.out BK286.out (by decide)))) _).trans (((cell_far (p := ⟨gb286, _, none⟩) (by first | exact Kd.own_blk (Kd.R_ne HO276.out BK286.out (by decide)) | (rw [add_block]; exact Kd.own_blk (Kd.R_ne HO276.out BK286.out (by decide))) | (show (Addr.add _ _).block ≠ _; rw [add_block]; exact Kd.own_blk (Kd.R_ne HO276.out BK286.out (by decide))) | (dsimp only; exact Kd.own_blk (Kd.R_ne HO276.out BK286.out (by decide)))) _).trans (hHeld.2.1)))))))))), ((cell_far (p := ⟨gb286, _, none⟩) (by first | exact Kd.own_blk (Kd.R_ne HO276.out BK286.out (by decide)) | (rw [add_block]; exact Kd.own_blk (Kd.R_ne HO276.out BK286.out (by decide))) | (show (Addr.add _ _).block ≠ _; rw [add_block]; exact Kd.own_blk (Kd.R_ne HO276.out BK286.out (by decide))) | (dsimp only; exact Kd.own_blk (Kd.R_ne HO276.out BK286.out (by decide)))) _).trans (((cell_far (p := ⟨gb286, _, none⟩) (by first | exact Kd.own_blk (Kd.R_ne HO276.out BK286.out (by decide)) | (rw [add_block]; exact Kd.own_blk (Kd.R_ne HO276.out BK286.out (by decide))) | (show (Addr.add _ _).block ≠ _; rw [add_block]; exact Kd.own_blk (Kd.R_ne HO276.out BK286.out (by decide))) | (dsimp only; exact Kd.own_blk (Kd.R_ne HO276.out BK286.out (by decide)))) _).trans (((cell_far (p := ⟨gb286, _, none⟩) (by first | exact Kd.own_blk (Kd.R_ne HO276.out BK286.out (by decide)) | (rw [add_block]; exact Kd.own_blk (Kd.R_ne HO276.out BK286.out (by decide))) | (show (Addr.add _ _).block ≠ _; rw [add_block]; exact Kd.own_blk (Kd.R_ne HO276.out BK286.out (by decide))) | (dsimp only; exact Kd.own_blk (Kd.R_ne HO276.out BK286.out (by decide)))) _).trans (((cell_far (p := ⟨gb286, _, none⟩) (by first | exact Kd.own_blk (Kd.R_ne HO276.out BK286.out (by decide)) | (rw [add_block]; exact Kd.own_blk (Kd.R_ne HO276.out BK286.out (by decide))) | (show (Addr.add _ _).block ≠ _; rw [add_block]; exact Kd.own_blk (Kd.R_ne HO276.out BK286.out (by decide))) | (dsimp only; exact Kd.own_blk (Kd.R_ne HO276.out BK286.out (by decide)))) _).trans (((cell_far (p := ⟨gb286, _, none⟩) (by first | exact Kd.own_blk (Kd.R_ne HO276.out BK286.out (by decide)) | (rw [add_block]; exact Kd.own_blk (Kd.R_ne HO276.out BK286.out (by decide))) | (show (Addr.add _ _).block ≠ _; rw [add_block]; exact Kd.own_blk (Kd.R_ne HO276.out BK286.out (by decide))) | (dsimp only; exact Kd.own_blk (Kd.R_ne HO276.out BK286.out (by decide)))) _).trans (hHeld.2.2))))))))))⟩ (fun hHeld => ?_)
                clear hK K
                refine done_ (done_of HT_.out (by kernel_rfl)) ?_
                have hnb43 := NB286_271.out
                have hnc43 := NB271_286.out
                have hcz44_0 : w37.cell? ⟨gb286, 0, none⟩ = some (.int .i64 0) := (blk_cell BK286.out 0).trans rfl
                have hcz44_1 : w37.cell? ⟨gb286, 1, none⟩ = some (.int .i64 0) := (blk_cell BK286.out 1).trans rfl
                have hcz44_2 : w37.cell? ⟨gb286, 2, none⟩ = some (.string (⟨#[]⟩ : ByteArray)) := (blk_cell BK286.out 2).trans rfl
                have hcz44_3 : w37.cell? ⟨gb286, 3, none⟩ = some (.string (⟨#[]⟩ : ByteArray)) := (blk_cell BK286.out 3).trans rfl
                have hcz44_4 : w37.cell? ⟨gb286, 4, none⟩ = some (.int .i64 0) := (blk_cell BK286.out 4).trans rfl
                have hfz44_0 := blk_frozen BK286.out 0
                have hfz44_1 := blk_frozen BK286.out 1
                have hfz44_2 := blk_frozen BK286.out 2
                have hfz44_3 := blk_frozen BK286.out 3
                have hfz44_4 := blk_frozen BK286.out 4
                try go_wp2_with (first | ((with_reducible refine gate_callee (f := 12) rfl ?_); refine goesL_ (some 63) rfl rfl Tryd.func12 (by kernel_rfl) rfl #[.agg #[.int .i64 (rd t272 0), .int .i64 (rd t272 1), .string t277, .string t280, .int .i64 (rd t272 2)]] rfl (by (try simp only [List.map_toArray, List.map_cons, List.map_nil]); first | done | rfl | (simp only [List.length_drop, List.length_take]; rfl)) ?_; (with_reducible refine (rivuletref06_Right.calls (rd t272 0) (rd t272 1) t277 t280 (rd t272 2) false _ A12.out).mono ?_); rintro e w45 ⟨rfl, hb⟩; refine ⟨_, rfl, ?_⟩; have n0_ := Aside0.mk (Kd.R_below (by (with_reducible repeat (first | apply Kd.R_alloc | apply Kd.R_drewN | apply Kd.R_drew)); exact (Kd.R_mono (Kd.R_far (p := ⟨gb286, 4, none⟩) (Kd.R_far (p := ⟨gb286, 3, none⟩) (Kd.R_far (p := ⟨gb286, 2, none⟩) (Kd.R_far (p := ⟨gb286, 1, none⟩) (Kd.R_far (p := ⟨gb286, 0, none⟩) (Kd.R_types HO276.out BK286.out (by decide)) (fun _ hk => hk.2) (.int .i64 (rd t272 0))) (fun _ hk => hk.2) (.int .i64 (rd t272 1))) (fun _ hk => hk.2) (.string t277)) (fun _ hk => hk.2) (.string t280)) (fun _ hk => hk.2) (.int .i64 (rd t272 2))) (fun _ h_ => h_.1))) hb); have n1_ := Aside0.mk (blk_below (g := gb271) (o := .cells #[.int .i64 0, .int .i64 0, .string (⟨#[]⟩ : ByteArray), .string (⟨#[]⟩ : ByteArray), .int .i64 0] 23 (0, 0)) (by (with_reducible repeat (first | refine blk_drewN ?_ _ | refine blk_drew ?_ | refine blk_alloc ?_ _)); refine blk_far ?_ NB271_286.out _; (with_reducible repeat (first | refine blk_drewN ?_ _ | refine blk_drew ?_ | refine blk_alloc ?_ _)); refine blk_far ?_ NB271_286.out _; (with_reducible repeat (first | refine blk_drewN ?_ _ | refine blk_drew ?_ | refine blk_alloc ?_ _)); refine blk_far ?_ NB271_286.out _; (with_reducible repeat (first | refine blk_drewN ?_ _ | refine blk_drew ?_ | refine blk_alloc ?_ _)); refine blk_far ?_ NB271_286.out _; (with_reducible repeat (first | refine blk_drewN ?_ _ | refine blk_drew ?_ | refine blk_alloc ?_ _)); refine blk_far ?_ NB271_286.out _; (with_reducible repeat (first | refine blk_drewN ?_ _ | refine blk_drew ?_ | refine blk_alloc ?_ _)); exact BK271.out) hb); have n2_ := Aside0.mk (blk_below (g := gb286) (o := .cells #[.int .i64 (rd t272 0), .int .i64 (rd t272 1), .string t277, .string t280, .int .i64 (rd t272 2)] 23 (0, 0)) (by (with_reducible repeat (first | refine blk_drewN ?_ _ | refine blk_drew ?_ | refine blk_alloc ?_ _)); refine blk_put (cs := #[.int .i64 (rd t272 0), .int .i64 (rd t272 1), .string t277, .string t280, .int .i64 0]) ?_ 4 _ rfl; (with_reducible repeat (first | refine blk_drewN ?_ _ | refine blk_drew ?_ | refine blk_alloc ?_ _)); refine blk_put (cs := #[.int .i64 (rd t272 0), .int .i64 (rd t272 1), .string t277, .string (⟨#[]⟩ : ByteArray), .int .i64 0]) ?_ 3 _ rfl; (with_reducible repeat (first | refine blk_drewN ?_ _ | refine blk_drew ?_ | refine blk_alloc ?_ _)); refine blk_put (cs := #[.int .i64 (rd t272 0), .int .i64 (rd t272 1), .string (⟨#[]⟩ : ByteArray), .string (⟨#[]⟩ : ByteArray), .int .i64 0]) ?_ 2 _ rfl; (with_reducible repeat (first | refine blk_drewN ?_ _ | refine blk_drew ?_ | refine blk_alloc ?_ _)); refine blk_put (cs := #[.int .i64 (rd t272 0), .int .i64 0, .string (⟨#[]⟩ : ByteArray), .string (⟨#[]⟩ : ByteArray), .int .i64 0]) ?_ 1 _ rfl; (with_reducible repeat (first | refine blk_drewN ?_ _ | refine blk_drew ?_ | refine blk_alloc ?_ _)); refine blk_put (cs := #[.int .i64 0, .int .i64 0, .string (⟨#[]⟩ : ByteArray), .string (⟨#[]⟩ : ByteArray), .int .i64 0]) ?_ 0 _ rfl; (with_reducible repeat (first | refine blk_drewN ?_ _ | refine blk_drew ?_ | refine blk_alloc ?_ _)); exact BK286.out) hb); have n3_ := Aside0.mk (below_step (by repeat (first | (with_reducible first | exact HB.out | apply below_alloc | apply pw_below_drewN | apply below_drew1 | refine below_set ?_ GE271.out | refine below_set ?_ GE286.out) | exact HB.out)) hb); clear HO276; clear BK271; clear BK286; clear HB; have HO276 := n0_; have BK271 := n1_; have BK286 := n2_; have HB := n3_; clear n0_ n1_ n2_ n3_; (try clear hb); (try clear hb2); (try clear hk); (try clear hi); have hcz46_0 : w45.cell? ⟨gb271, 0, none⟩ = some (.int .i64 0) := (blk_cell BK271.out 0).trans rfl; have hcz46_1 : w45.cell? ⟨gb271, 1, none⟩ = some (.int .i64 0) := (blk_cell BK271.out 1).trans rfl; have hcz46_2 : w45.cell? ⟨gb271, 2, none⟩ = some (.string (⟨#[]⟩ : ByteArray)) := (blk_cell BK271.out 2).trans rfl; have hcz46_3 : w45.cell? ⟨gb271, 3, none⟩ = some (.string (⟨#[]⟩ : ByteArray)) := (blk_cell BK271.out 3).trans rfl; have hcz46_4 : w45.cell? ⟨gb271, 4, none⟩ = some (.int .i64 0) := (blk_cell BK271.out 4).trans rfl; have hfz46_0 := blk_frozen BK271.out 0; have hfz46_1 := blk_frozen BK271.out 1; have hfz46_2 := blk_frozen BK271.out 2; have hfz46_3 := blk_frozen BK271.out 3; have hfz46_4 := blk_frozen BK271.out 4))
                refine bodyPost_ret (results_ctt rfl _ _ gb271 23 #[.int .i64 0, .int .i64 0, .string (⟨#[]⟩ : ByteArray), .string (⟨#[]⟩ : ByteArray), .int .i64 0] (0, 0) _ rfl (by (with_reducible repeat (first | refine blk_drewN ?_ _ | refine blk_drew ?_ | refine blk_alloc ?_ _)); refine blk_put (cs := #[.int .i64 0, .int .i64 0, .string (⟨#[]⟩ : ByteArray), .string (⟨#[]⟩ : ByteArray), .int .i64 0]) ?_ 4 _ rfl; (with_reducible repeat (first | refine blk_drewN ?_ _ | refine blk_drew ?_ | refine blk_alloc ?_ _)); refine blk_put (cs := #[.int .i64 0, .int .i64 0, .string (⟨#[]⟩ : ByteArray), .string (⟨#[]⟩ : ByteArray), .int .i64 0]) ?_ 3 _ rfl; (with_reducible repeat (first | refine blk_drewN ?_ _ | refine blk_drew ?_ | refine blk_alloc ?_ _)); refine blk_put (cs := #[.int .i64 0, .int .i64 0, .string (⟨#[]⟩ : ByteArray), .string (⟨#[]⟩ : ByteArray), .int .i64 0]) ?_ 2 _ rfl; (with_reducible repeat (first | refine blk_drewN ?_ _ | refine blk_drew ?_ | refine blk_alloc ?_ _)); refine blk_put (cs := #[.int .i64 0, .int .i64 0, .string (⟨#[]⟩ : ByteArray), .string (⟨#[]⟩ : ByteArray), .int .i64 0]) ?_ 1 _ rfl; (with_reducible repeat (first | refine blk_drewN ?_ _ | refine blk_drew ?_ | refine blk_alloc ?_ _)); refine blk_put (cs := #[.int .i64 0, .int .i64 0, .string (⟨#[]⟩ : ByteArray), .string (⟨#[]⟩ : ByteArray), .int .i64 0]) ?_ 0 _ rfl; (with_reducible repeat (first | refine blk_drewN ?_ _ | refine blk_drew ?_ | refine blk_alloc ?_ _)); exact BK271.out) Tryd.underlying23 rfl (by kernel_rfl)) rfl ?_
                exact ⟨by first | rfl | (simp [errW_none, errW_some] <;> rfl) | (simp [*, errW_none, errW_some] <;> rfl), by repeat (first | (with_reducible first | exact HB.out | apply below_alloc | apply pw_below_drewN | apply below_drew1 | refine below_set ?_ GE271.out | refine below_set ?_ GE286.out) | exact HB.out)⟩
            · rw [if_neg c11] at H
              exact absurd H (by simp)
          · rw [if_neg c10] at H
            exact absurd H (by simp)
        · rw [if_neg c9] at H
          exact absurd H (by simp)
      · rw [if_neg c8] at H
        have c8b0 : (t282 == 0) = false := beq_eq_false_iff_ne.mpr c8
        have c8b1 : (t282 != 0) = true := bne_iff_ne.mpr c8
        simp only [Option.some.injEq, Prod.mk.injEq] at H
        obtain ⟨rfl, rfl, rfl, rfl, rfl, rfl, rfl⟩ := H
        go_enter Tryd.func23, Tryd.ntmps23
        go_wp2_with (first | ((with_reducible refine gate_dst (N := 4) rfl ?_); refine box_event ?hg (N := 4) ?hd (cs := #[.int .i64 0, .int .i64 0, .string (⟨#[]⟩ : ByteArray), .string (⟨#[]⟩ : ByteArray), .int .i64 0]) (t := 23) ?hr ?_; (case hd => rfl); (case hg => rfl); (case hr => first | (go_simp; done) | (go_simp; rfl)); intro gb271 hg w47 hbox hb; have n0_ := Aside0.mk (below_step (by repeat (first | (with_reducible first | exact HB.out | apply below_alloc | apply pw_below_drewN | apply below_drew1) | exact HB.out)) hb); have n1_ := Aside0.mk (hbox); have n2_ := Aside0.mk ((by rw [hg]; exact (below_size (by repeat (first | (with_reducible first | exact HB.out | apply below_alloc | apply pw_below_drewN | apply below_drew1) | exact HB.out))) : w.heap.size ≤ gb271)); have n3_ := Aside0.mk ((by rw [hg]; exact (below_size (by repeat (first | (with_reducible first | exact HB.out | apply below_alloc | apply pw_below_drewN | apply below_drew1) | exact HB.out))) : w.heap.size ≤ gb271)); clear HB; have HB := n0_; have BK271 := n1_; have GW271 := n2_; have GE271 := n3_; clear n0_ n1_ n2_ n3_; clear hb hbox hg) | ((with_reducible refine gate_callee (f := 42) rfl ?_); refine goesL_ (some 20) rfl rfl Tryd.func42 (by kernel_rfl) rfl #[.string a0, .int .i64 a1, .int .i64 3] rfl (by (try simp only [List.map_toArray, List.map_cons, List.map_nil]); first | done | rfl | (simp only [List.length_drop, List.length_take]; rfl)) ?_; (with_reducible refine (rivuletref06_nums.calls k a0 a1 3 t272 t273 t274 _ A3.out).mono ?_); rintro e w48 ⟨v275, rfl, ho0, hb⟩; refine ⟨_, rfl, ?_⟩; have n0_ := Aside0.mk (Kd.R_lower ho0 (below_size (by repeat (first | (with_reducible first | exact HB.out | apply below_alloc | apply pw_below_drewN | apply below_drew1 | refine below_set ?_ GE271.out) | exact HB.out)))); have n1_ := Aside0.mk (blk_below (g := gb271) (o := .cells #[.int .i64 0, .int .i64 0, .string (⟨#[]⟩ : ByteArray), .string (⟨#[]⟩ : ByteArray), .int .i64 0] 23 (0, 0)) (by (with_reducible repeat (first | refine blk_drewN ?_ _ | refine blk_drew ?_ | refine blk_alloc ?_ _)); exact BK271.out) hb); have n2_ := Aside0.mk (below_step (by repeat (first | (with_reducible first | exact HB.out | apply below_alloc | apply pw_below_drewN | apply below_drew1 | refine below_set ?_ GE271.out) | exact HB.out)) hb); clear BK271; clear HB; have HO276 := n0_; have BK271 := n1_; have HB := n2_; clear n0_ n1_ n2_; (try clear hb); (try clear hb2); (try clear hk); (try clear hi); (try clear ho0)) | ((with_reducible refine gate_callee (f := 43) rfl ?_); refine goesL_ (some 31) rfl rfl Tryd.func43 (by kernel_rfl) rfl #[.string a0, .int .i64 t273] rfl (by (try simp only [List.map_toArray, List.map_cons, List.map_nil]); first | done | rfl | (simp only [List.length_drop, List.length_take]; rfl)) ?_; (with_reducible refine (rivuletref01_Cut.calls a0 t273 t277 t278 t279 _ A5.out).mono ?_); rintro e w49 ⟨rfl, hb⟩; refine ⟨_, rfl, ?_⟩; have n0_ := Aside0.mk (Kd.R_below (by (with_reducible repeat (first | apply Kd.R_alloc | apply Kd.R_drewN | apply Kd.R_drew)); exact HO276.out) hb); have n1_ := Aside0.mk (blk_below (g := gb271) (o := .cells #[.int .i64 0, .int .i64 0, .string (⟨#[]⟩ : ByteArray), .string (⟨#[]⟩ : ByteArray), .int .i64 0] 23 (0, 0)) (by (with_reducible repeat (first | refine blk_drewN ?_ _ | refine blk_drew ?_ | refine blk_alloc ?_ _)); exact BK271.out) hb); have n2_ := Aside0.mk (below_step (by repeat (first | (with_reducible first | exact HB.out | apply below_alloc | apply pw_below_drewN | apply below_drew1 | refine below_set ?_ GE271.out) | exact HB.out)) hb); clear HO276; clear BK271; clear HB; have HO276 := n0_; have BK271 := n1_; have HB := n2_; clear n0_ n1_ n2_; (try clear hb); (try clear hb2); (try clear hk); (try clear hi)) | ((with_reducible refine gate_callee (f := 43) rfl ?_); refine goesL_ (some 42) rfl rfl Tryd.func43 (by kernel_rfl) rfl #[.string a0, .int .i64 t278] rfl (by (try simp only [List.map_toArray, List.map_cons, List.map_nil]); first | done | rfl | (simp only [List.length_drop, List.length_take]; rfl)) ?_; (with_reducible refine (rivuletref01_Cut.calls a0 t278 t280 t281 t282 _ A7.out).mono ?_); rintro e w50 ⟨rfl, hb⟩; refine ⟨_, rfl, ?_⟩; have n0_ := Aside0.mk (Kd.R_below (by (with_reducible repeat (first | apply Kd.R_alloc | apply Kd.R_drewN | apply Kd.R_drew)); exact HO276.out) hb); have n1_ := Aside0.mk (blk_below (g := gb271) (o := .cells #[.int .i64 0, .int .i64 0, .string (⟨#[]⟩ : ByteArray), .string (⟨#[]⟩ : ByteArray), .int .i64 0] 23 (0, 0)) (by (with_reducible repeat (first | refine blk_drewN ?_ _ | refine blk_drew ?_ | refine blk_alloc ?_ _)); exact BK271.out) hb); have n2_ := Aside0.mk (below_step (by repeat (first | (with_reducible first | exact HB.out | apply below_alloc | apply pw_below_drewN | apply below_drew1 | refine below_set ?_ GE271.out) | exact HB.out)) hb); clear HO276; clear BK271; clear HB; have HO276 := n0_; have BK271 := n1_; have HB := n2_; clear n0_ n1_ n2_; (try clear hb); (try clear hb2); (try clear hk); (try clear hi); have hcz51_0 : w50.cell? ⟨gb271, 0, none⟩ = some (.int .i64 0) := (blk_cell BK271.out 0).trans rfl; have hcz51_1 : w50.cell? ⟨gb271, 1, none⟩ = some (.int .i64 0) := (blk_cell BK271.out 1).trans rfl; have hcz51_2 : w50.cell? ⟨gb271, 2, none⟩ = some (.string (⟨#[]⟩ : ByteArray)) := (blk_cell BK271.out 2).trans rfl; have hcz51_3 : w50.cell? ⟨gb271, 3, none⟩ = some (.string (⟨#[]⟩ : ByteArray)) := (blk_cell BK271.out 3).trans rfl; have hcz51_4 : w50.cell? ⟨gb271, 4, none⟩ = some (.int .i64 0) := (blk_cell BK271.out 4).trans rfl; have hfz51_0 := blk_frozen BK271.out 0; have hfz51_1 := blk_frozen BK271.out 1; have hfz51_2 := blk_frozen BK271.out 2; have hfz51_3 := blk_frozen BK271.out 3; have hfz51_4 := blk_frozen BK271.out 4))
        refine bodyPost_ret (results_ctt rfl _ _ gb271 23 #[.int .i64 0, .int .i64 0, .string (⟨#[]⟩ : ByteArray), .string (⟨#[]⟩ : ByteArray), .int .i64 0] (0, 0) _ rfl (by (with_reducible repeat (first | refine blk_drewN ?_ _ | refine blk_drew ?_ | refine blk_alloc ?_ _)); refine blk_put (cs := #[.int .i64 0, .int .i64 0, .string (⟨#[]⟩ : ByteArray), .string (⟨#[]⟩ : ByteArray), .int .i64 0]) ?_ 4 _ rfl; (with_reducible repeat (first | refine blk_drewN ?_ _ | refine blk_drew ?_ | refine blk_alloc ?_ _)); refine blk_put (cs := #[.int .i64 0, .int .i64 0, .string (⟨#[]⟩ : ByteArray), .string (⟨#[]⟩ : ByteArray), .int .i64 0]) ?_ 3 _ rfl; (with_reducible repeat (first | refine blk_drewN ?_ _ | refine blk_drew ?_ | refine blk_alloc ?_ _)); refine blk_put (cs := #[.int .i64 0, .int .i64 0, .string (⟨#[]⟩ : ByteArray), .string (⟨#[]⟩ : ByteArray), .int .i64 0]) ?_ 2 _ rfl; (with_reducible repeat (first | refine blk_drewN ?_ _ | refine blk_drew ?_ | refine blk_alloc ?_ _)); refine blk_put (cs := #[.int .i64 0, .int .i64 0, .string (⟨#[]⟩ : ByteArray), .string (⟨#[]⟩ : ByteArray), .int .i64 0]) ?_ 1 _ rfl; (with_reducible repeat (first | refine blk_drewN ?_ _ | refine blk_drew ?_ | refine blk_alloc ?_ _)); refine blk_put (cs := #[.int .i64 0, .int .i64 0, .string (⟨#[]⟩ : ByteArray), .string (⟨#[]⟩ : ByteArray), .int .i64 0]) ?_ 0 _ rfl; (with_reducible repeat (first | refine blk_drewN ?_ _ | refine blk_drew ?_ | refine blk_alloc ?_ _)); exact BK271.out) Tryd.underlying23 rfl (by kernel_rfl)) rfl ?_
        exact ⟨by first | rfl | (simp [errW_none, errW_some] <;> rfl) | (simp [*, errW_none, errW_some] <;> rfl), by repeat (first | (with_reducible first | exact HB.out | apply below_alloc | apply pw_below_drewN | apply below_drew1 | refine below_set ?_ GE271.out) | exact HB.out)⟩
    · rw [if_neg c6] at H
      have c6b0 : (t279 == 0) = false := beq_eq_false_iff_ne.mpr c6
      have c6b1 : (t279 != 0) = true := bne_iff_ne.mpr c6
      simp only [Option.some.injEq, Prod.mk.injEq] at H
      obtain ⟨rfl, rfl, rfl, rfl, rfl, rfl, rfl⟩ := H
      go_enter Tryd.func23, Tryd.ntmps23
      go_wp2_with (first | ((with_reducible refine gate_dst (N := 4) rfl ?_); refine box_event ?hg (N := 4) ?hd (cs := #[.int .i64 0, .int .i64 0, .string (⟨#[]⟩ : ByteArray), .string (⟨#[]⟩ : ByteArray), .int .i64 0]) (t := 23) ?hr ?_; (case hd => rfl); (case hg => rfl); (case hr => first | (go_simp; done) | (go_simp; rfl)); intro gb271 hg w52 hbox hb; have n0_ := Aside0.mk (below_step (by repeat (first | (with_reducible first | exact HB.out | apply below_alloc | apply pw_below_drewN | apply below_drew1) | exact HB.out)) hb); have n1_ := Aside0.mk (hbox); have n2_ := Aside0.mk ((by rw [hg]; exact (below_size (by repeat (first | (with_reducible first | exact HB.out | apply below_alloc | apply pw_below_drewN | apply below_drew1) | exact HB.out))) : w.heap.size ≤ gb271)); have n3_ := Aside0.mk ((by rw [hg]; exact (below_size (by repeat (first | (with_reducible first | exact HB.out | apply below_alloc | apply pw_below_drewN | apply below_drew1) | exact HB.out))) : w.heap.size ≤ gb271)); clear HB; have HB := n0_; have BK271 := n1_; have GW271 := n2_; have GE271 := n3_; clear n0_ n1_ n2_ n3_; clear hb hbox hg) | ((with_reducible refine gate_callee (f := 42) rfl ?_); refine goesL_ (some 20) rfl rfl Tryd.func42 (by kernel_rfl) rfl #[.string a0, .int .i64 a1, .int .i64 3] rfl (by (try simp only [List.map_toArray, List.map_cons, List.map_nil]); first | done | rfl | (simp only [List.length_drop, List.length_take]; rfl)) ?_; (with_reducible refine (rivuletref06_nums.calls k a0 a1 3 t272 t273 t274 _ A3.out).mono ?_); rintro e w53 ⟨v275, rfl, ho0, hb⟩; refine ⟨_, rfl, ?_⟩; have n0_ := Aside0.mk (Kd.R_lower ho0 (below_size (by repeat (first | (with_reducible first | exact HB.out | apply below_alloc | apply pw_below_drewN | apply below_drew1 | refine below_set ?_ GE271.out) | exact HB.out)))); have n1_ := Aside0.mk (blk_below (g := gb271) (o := .cells #[.int .i64 0, .int .i64 0, .string (⟨#[]⟩ : ByteArray), .string (⟨#[]⟩ : ByteArray), .int .i64 0] 23 (0, 0)) (by (with_reducible repeat (first | refine blk_drewN ?_ _ | refine blk_drew ?_ | refine blk_alloc ?_ _)); exact BK271.out) hb); have n2_ := Aside0.mk (below_step (by repeat (first | (with_reducible first | exact HB.out | apply below_alloc | apply pw_below_drewN | apply below_drew1 | refine below_set ?_ GE271.out) | exact HB.out)) hb); clear BK271; clear HB; have HO276 := n0_; have BK271 := n1_; have HB := n2_; clear n0_ n1_ n2_; (try clear hb); (try clear hb2); (try clear hk); (try clear hi); (try clear ho0)) | ((with_reducible refine gate_callee (f := 43) rfl ?_); refine goesL_ (some 31) rfl rfl Tryd.func43 (by kernel_rfl) rfl #[.string a0, .int .i64 t273] rfl (by (try simp only [List.map_toArray, List.map_cons, List.map_nil]); first | done | rfl | (simp only [List.length_drop, List.length_take]; rfl)) ?_; (with_reducible refine (rivuletref01_Cut.calls a0 t273 t277 t278 t279 _ A5.out).mono ?_); rintro e w54 ⟨rfl, hb⟩; refine ⟨_, rfl, ?_⟩; have n0_ := Aside0.mk (Kd.R_below (by (with_reducible repeat (first | apply Kd.R_alloc | apply Kd.R_drewN | apply Kd.R_drew)); exact HO276.out) hb); have n1_ := Aside0.mk (blk_below (g := gb271) (o := .cells #[.int .i64 0, .int .i64 0, .string (⟨#[]⟩ : ByteArray), .string (⟨#[]⟩ : ByteArray), .int .i64 0] 23 (0, 0)) (by (with_reducible repeat (first | refine blk_drewN ?_ _ | refine blk_drew ?_ | refine blk_alloc ?_ _)); exact BK271.out) hb); have n2_ := Aside0.mk (below_step (by repeat (first | (with_reducible first | exact HB.out | apply below_alloc | apply pw_below_drewN | apply below_drew1 | refine below_set ?_ GE271.out) | exact HB.out)) hb); clear HO276; clear BK271; clear HB; have HO276 := n0_; have BK271 := n1_; have HB := n2_; clear n0_ n1_ n2_; (try clear hb); (try clear hb2); (try clear hk); (try clear hi); have hcz55_0 : w54.cell? ⟨gb271, 0, none⟩ = some (.int .i64 0) := (blk_cell BK271.out 0).trans rfl; have hcz55_1 : w54.cell? ⟨gb271, 1, none⟩ = some (.int .i64 0) := (blk_cell BK271.out 1).trans rfl; have hcz55_2 : w54.cell? ⟨gb271, 2, none⟩ = some (.string (⟨#[]⟩ : ByteArray)) := (blk_cell BK271.out 2).trans rfl; have hcz55_3 : w54.cell? ⟨gb271, 3, none⟩ = some (.string (⟨#[]⟩ : ByteArray)) := (blk_cell BK271.out 3).trans rfl; have hcz55_4 : w54.cell? ⟨gb271, 4, none⟩ = some (.int .i64 0) := (blk_cell BK271.out 4).trans rfl; have hfz55_0 := blk_frozen BK271.out 0; have hfz55_1 := blk_frozen BK271.out 1; have hfz55_2 := blk_frozen BK271.out 2; have hfz55_3 := blk_frozen BK271.out 3; have hfz55_4 := blk_frozen BK271.out 4))
      refine bodyPost_ret (results_ctt rfl _ _ gb271 23 #[.int .i64 0, .int .i64 0, .string (⟨#[]⟩ : ByteArray), .string (⟨#[]⟩ : ByteArray), .int .i64 0] (0, 0) _ rfl (by (with_reducible repeat (first | refine blk_drewN ?_ _ | refine blk_drew ?_ | refine blk_alloc ?_ _)); refine blk_put (cs := #[.int .i64 0, .int .i64 0, .string (⟨#[]⟩ : ByteArray), .string (⟨#[]⟩ : ByteArray), .int .i64 0]) ?_ 4 _ rfl; (with_reducible repeat (first | refine blk_drewN ?_ _ | refine blk_drew ?_ | refine blk_alloc ?_ _)); refine blk_put (cs := #[.int .i64 0, .int .i64 0, .string (⟨#[]⟩ : ByteArray), .string (⟨#[]⟩ : ByteArray), .int .i64 0]) ?_ 3 _ rfl; (with_reducible repeat (first | refine blk_drewN ?_ _ | refine blk_drew ?_ | refine blk_alloc ?_ _)); refine blk_put (cs := #[.int .i64 0, .int .i64 0, .string (⟨#[]⟩ : ByteArray), .string (⟨#[]⟩ : ByteArray), .int .i64 0]) ?_ 2 _ rfl; (with_reducible repeat (first | refine blk_drewN ?_ _ | refine blk_drew ?_ | refine blk_alloc ?_ _)); refine blk_put (cs := #[.int .i64 0, .int .i64 0, .string (⟨#[]⟩ : ByteArray), .string (⟨#[]⟩ : ByteArray), .int .i64 0]) ?_ 1 _ rfl; (with_reducible repeat (first | refine blk_drewN ?_ _ | refine blk_drew ?_ | refine blk_alloc ?_ _)); refine blk_put (cs := #[.int .i64 0, .int .i64 0, .string (⟨#[]⟩ : ByteArray), .string (⟨#[]⟩ : ByteArray), .int .i64 0]) ?_ 0 _ rfl; (with_reducible repeat (first | refine blk_drewN ?_ _ | refine blk_drew ?_ | refine blk_alloc ?_ _)); exact BK271.out) Tryd.underlying23 rfl (by kernel_rfl)) rfl ?_
      exact ⟨by first | rfl | (simp [errW_none, errW_some] <;> rfl) | (simp [*, errW_none, errW_some] <;> rfl), by repeat (first | (with_reducible first | exact HB.out | apply below_alloc | apply pw_below_drewN | apply below_drew1 | refine below_set ?_ GE271.out) | exact HB.out)⟩
  · rw [if_neg c4] at H
    have c4b0 : (t274 == 0) = false := beq_eq_false_iff_ne.mpr c4
    have c4b1 : (t274 != 0) = true := bne_iff_ne.mpr c4
    simp only [Option.some.injEq, Prod.mk.injEq] at H
    obtain ⟨rfl, rfl, rfl, rfl, rfl, rfl, rfl⟩ := H
    go_enter Tryd.func23, Tryd.ntmps23
    go_wp2_with (first | ((with_reducible refine gate_dst (N := 4) rfl ?_); refine box_event ?hg (N := 4) ?hd (cs := #[.int .i64 0, .int .i64 0, .string (⟨#[]⟩ : ByteArray), .string (⟨#[]⟩ : ByteArray), .int .i64 0]) (t := 23) ?hr ?_; (case hd => rfl); (case hg => rfl); (case hr => first | (go_simp; done) | (go_simp; rfl)); intro gb271 hg w56 hbox hb; have n0_ := Aside0.mk (below_step (by repeat (first | (with_reducible first | exact HB.out | apply below_alloc | apply pw_below_drewN | apply below_drew1) | exact HB.out)) hb); have n1_ := Aside0.mk (hbox); have n2_ := Aside0.mk ((by rw [hg]; exact (below_size (by repeat (first | (with_reducible first | exact HB.out | apply below_alloc | apply pw_below_drewN | apply below_drew1) | exact HB.out))) : w.heap.size ≤ gb271)); have n3_ := Aside0.mk ((by rw [hg]; exact (below_size (by repeat (first | (with_reducible first | exact HB.out | apply below_alloc | apply pw_below_drewN | apply below_drew1) | exact HB.out))) : w.heap.size ≤ gb271)); clear HB; have HB := n0_; have BK271 := n1_; have GW271 := n2_; have GE271 := n3_; clear n0_ n1_ n2_ n3_; clear hb hbox hg) | ((with_reducible refine gate_callee (f := 42) rfl ?_); refine goesL_ (some 20) rfl rfl Tryd.func42 (by kernel_rfl) rfl #[.string a0, .int .i64 a1, .int .i64 3] rfl (by (try simp only [List.map_toArray, List.map_cons, List.map_nil]); first | done | rfl | (simp only [List.length_drop, List.length_take]; rfl)) ?_; (with_reducible refine (rivuletref06_nums.calls k a0 a1 3 t272 t273 t274 _ A3.out).mono ?_); rintro e w57 ⟨v275, rfl, ho0, hb⟩; refine ⟨_, rfl, ?_⟩; have n0_ := Aside0.mk (Kd.R_lower ho0 (below_size (by repeat (first | (with_reducible first | exact HB.out | apply below_alloc | apply pw_below_drewN | apply below_drew1 | refine below_set ?_ GE271.out) | exact HB.out)))); have n1_ := Aside0.mk (blk_below (g := gb271) (o := .cells #[.int .i64 0, .int .i64 0, .string (⟨#[]⟩ : ByteArray), .string (⟨#[]⟩ : ByteArray), .int .i64 0] 23 (0, 0)) (by (with_reducible repeat (first | refine blk_drewN ?_ _ | refine blk_drew ?_ | refine blk_alloc ?_ _)); exact BK271.out) hb); have n2_ := Aside0.mk (below_step (by repeat (first | (with_reducible first | exact HB.out | apply below_alloc | apply pw_below_drewN | apply below_drew1 | refine below_set ?_ GE271.out) | exact HB.out)) hb); clear BK271; clear HB; have HO276 := n0_; have BK271 := n1_; have HB := n2_; clear n0_ n1_ n2_; (try clear hb); (try clear hb2); (try clear hk); (try clear hi); (try clear ho0); have hcz58_0 : w57.cell? ⟨gb271, 0, none⟩ = some (.int .i64 0) := (blk_cell BK271.out 0).trans rfl; have hcz58_1 : w57.cell? ⟨gb271, 1, none⟩ = some (.int .i64 0) := (blk_cell BK271.out 1).trans rfl; have hcz58_2 : w57.cell? ⟨gb271, 2, none⟩ = some (.string (⟨#[]⟩ : ByteArray)) := (blk_cell BK271.out 2).trans rfl; have hcz58_3 : w57.cell? ⟨gb271, 3, none⟩ = some (.string (⟨#[]⟩ : ByteArray)) := (blk_cell BK271.out 3).trans rfl; have hcz58_4 : w57.cell? ⟨gb271, 4, none⟩ = some (.int .i64 0) := (blk_cell BK271.out 4).trans rfl; have hfz58_0 := blk_frozen BK271.out 0; have hfz58_1 := blk_frozen BK271.out 1; have hfz58_2 := blk_frozen BK271.out 2; have hfz58_3 := blk_frozen BK271.out 3; have hfz58_4 := blk_frozen BK271.out 4))
    refine bodyPost_ret (results_ctt rfl _ _ gb271 23 #[.int .i64 0, .int .i64 0, .string (⟨#[]⟩ : ByteArray), .string (⟨#[]⟩ : ByteArray), .int .i64 0] (0, 0) _ rfl (by (with_reducible repeat (first | refine blk_drewN ?_ _ | refine blk_drew ?_ | refine blk_alloc ?_ _)); refine blk_put (cs := #[.int .i64 0, .int .i64 0, .string (⟨#[]⟩ : ByteArray), .string (⟨#[]⟩ : ByteArray), .int .i64 0]) ?_ 4 _ rfl; (with_reducible repeat (first | refine blk_drewN ?_ _ | refine blk_drew ?_ | refine blk_alloc ?_ _)); refine blk_put (cs := #[.int .i64 0, .int .i64 0, .string (⟨#[]⟩ : ByteArray), .string (⟨#[]⟩ : ByteArray), .int .i64 0]) ?_ 3 _ rfl; (with_reducible repeat (first | refine blk_drewN ?_ _ | refine blk_drew ?_ | refine blk_alloc ?_ _)); refine blk_put (cs := #[.int .i64 0, .int .i64 0, .string (⟨#[]⟩ : ByteArray), .string (⟨#[]⟩ : ByteArray), .int .i64 0]) ?_ 2 _ rfl; (with_reducible repeat (first | refine blk_drewN ?_ _ | refine blk_drew ?_ | refine blk_alloc ?_ _)); refine blk_put (cs := #[.int .i64 0, .int .i64 0, .string (⟨#[]⟩ : ByteArray), .string (⟨#[]⟩ : ByteArray), .int .i64 0]) ?_ 1 _ rfl; (with_reducible repeat (first | refine blk_drewN ?_ _ | refine blk_drew ?_ | refine blk_alloc ?_ _)); refine blk_put (cs := #[.int .i64 0, .int .i64 0, .string (⟨#[]⟩ : ByteArray), .string (⟨#[]⟩ : ByteArray), .int .i64 0]) ?_ 0 _ rfl; (with_reducible repeat (first | refine blk_drewN ?_ _ | refine blk_drew ?_ | refine blk_alloc ?_ _)); exact BK271.out) Tryd.underlying23 rfl (by kernel_rfl)) rfl ?_
    exact ⟨by first | rfl | (simp [errW_none, errW_some] <;> rfl) | (simp [*, errW_none, errW_some] <;> rfl), by repeat (first | (with_reducible first | exact HB.out | apply below_alloc | apply pw_below_drewN | apply below_drew1 | refine below_set ?_ GE271.out) | exact HB.out)⟩
end Go.Proofs.YtdoaomoocikmaaaDoor.Pr
