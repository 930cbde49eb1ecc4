import Derived.Test.YtdoaomoocikmaaaDoorKSame8
namespace Go.Proofs.YtdoaomoocikmaaaDoor.Pv
open Go.RowKit Go.Proofs.YtdoaomoocikmaaaDoorW.PrintWords Go.Proofs.YtdoaomoocikmaaaDoorW.PrintLast Go.Proofs.YtdoaomoocikmaaaDoorW.PrintMore
attribute [local go_sem] max2_int min2_int max_two min_two max_three min_three max_four min_four
set_option linter.unusedVariables false
set_option linter.unusedSimpArgs false
def varint_Put.l0 : Nat → Int → Int → List Int → Int → Int → Option (ByteArray)
  | 0, _, _, _, _, _ => none
  | k + 1, x0, x3, x4, x44, x45 => if x45 < x44 then (if 0 ≤ (wrap64 (8 * (wrap64 ((wrap64 (x3 - 1)) - x45)))) then (if x4.length < 140737488355328 then (varint_Put.l0 k x0 x3 (x4 ++ [(shr .u64 x0 (wrap64 (8 * (wrap64 ((wrap64 (x3 - 1)) - x45))))) % 256]) x44 (wrap64 (x45 + 1))) else (none)) else (none)) else (some (strOfNums x4))
def varint_Put.f (k : Nat) (a0 : Int) : Option (ByteArray) := if a0 ≤ 240 then (some (strOfNums (([(a0) % 256] : List Int)))) else (if a0 ≤ 2287 then (some (strOfNums (([(IntKind.u64.wrap (241 + (IntKind.u64.wrap (Int.tdiv (IntKind.u64.wrap (a0 - 240)) 256)))) % 256, (IntKind.u64.wrap (a0 - 240)) % 256] : List Int)))) else (if a0 ≤ 67823 then (some (strOfNums (([249, (IntKind.u64.wrap (Int.tdiv (IntKind.u64.wrap (a0 - 2288)) 256)) % 256, (IntKind.u64.wrap (a0 - 2288)) % 256] : List Int)))) else ((varint_behind.f a0).bind fun t120 => (varint_Put.l0 k a0 t120 (([(wrap64 (247 + t120)) % 256] : List Int)) t120 0))))
set_option maxHeartbeats 8000000 in
set_option maxRecDepth 100000 in
theorem varint_Put.calls (k : Nat) (a0 : Int) (r : ByteArray) (w : World) (h : varint_Put.f k a0 = some r) :
    Calls Tryd.prog 35 #[.int .u64 a0] w fun e w' => e = .returned (.string r) ∧ Below w.heap.size w w' := by
  have HB := Aside0.mk (Below.refl w.heap.size w)
  have H : (if a0 ≤ 240 then (some (strOfNums (([(a0) % 256] : List Int)))) else (if a0 ≤ 2287 then (some (strOfNums (([(IntKind.u64.wrap (241 + (IntKind.u64.wrap (Int.tdiv (IntKind.u64.wrap (a0 - 240)) 256)))) % 256, (IntKind.u64.wrap (a0 - 240)) % 256] : List Int)))) else (if a0 ≤ 67823 then (some (strOfNums (([249, (IntKind.u64.wrap (Int.tdiv (IntKind.u64.wrap (a0 - 2288)) 256)) % 256, (IntKind.u64.wrap (a0 - 2288)) % 256] : List Int)))) else ((varint_behind.f a0).bind fun t120 => (varint_Put.l0 k a0 t120 (([(wrap64 (247 + t120)) % 256] : List Int)) t120 0))))) = some r := h
  clear h
  by_cases c2 : a0 ≤ 240
  · rw [if_pos c2] at H
    have c2b0 : decide (a0 ≤ 240) = true := decide_eq_true c2
    clear c2
    obtain ⟨y111, hy111⟩ : ∃ y_ : List Int, y_ = (([(a0) % 256] : List Int)) := ⟨_, rfl⟩
    replace H : (some (strOfNums y111)) = some r := by first | (rw [hy111]; with_reducible exact H) | (have H2_ := (Option.bind_some _ _).symm.trans H; rw [hy111]; with_reducible exact H2_) | (have H2_ := (Option.bind_some _ _).symm.trans H; with_reducible exact H2_) | with_reducible exact H | (rw [hy111]; exact H) | exact H
    have Ny111 := Aside0.mk hy111
    clear hy111
    obtain rfl := Option.some.inj H
    go_enter Tryd.func35, Tryd.ntmps35
    go_wp2_with (first | ((with_reducible refine gate_dst (N := 11) rfl ?_); refine Kd.R_lit (Kd.int .u8) _ 5 ?hg (N := 11) ?hd (xs := ([(a0) % 256] : List Int)) (inner := [.int .u8 ((a0) % 256)]) (ok := fun _ => True) (okp := fun _ => True) ?hr ?hp (fun _ hk => hk) trivial (Below.refl _ _) (Nat.le_refl _) (by simp) ?_; (case hd => rfl); (case hg => rfl); (case hr => first | (go_simp; done) | (go_simp; rfl)); (case hp => exact (Reps.one (show Kd.M (Kd.int .u8) _ _ _ ((a0) % 256) [.int .u8 ((a0) % 256)] from rfl) (Reps.none _ _))); intro v112 w3 ho4 hb hg_ hnew_; clear hg_ hnew_; (first | rw [← Ny111.out] at ho4 | (simp only [Int.reduceToNat] at ho4; rw [← Ny111.out] at ho4)); have n0_ := Aside0.mk (Kd.R_lower ho4 (below_size (by repeat (first | (with_reducible first | exact HB.out | apply below_alloc | apply pw_below_drewN | apply below_drew1) | exact HB.out)))); have n1_ := Aside0.mk (below_step (by repeat (first | (with_reducible first | exact HB.out | apply below_alloc | apply pw_below_drewN | apply below_drew1) | exact HB.out)) hb); clear HB; have HO113 := n0_; have HB := n1_; clear n0_ n1_; clear hb ho4; have hcv5 := own_string (P := Tryd.prog) Tryd.underlying72 Tryd.underlying5 Tryd.underlying9 (Kd.own_of_R HO113.out)))
    go_ret
    exact ⟨by first | rfl | (simp [errW_none, errW_some] <;> rfl) | (simp [*, errW_none, errW_some] <;> rfl), by repeat (first | (with_reducible first | exact HB.out | apply below_alloc | apply pw_below_drewN | apply below_drew1) | exact HB.out)⟩
  · rw [if_neg c2] at H
    have c2b0 : decide (a0 ≤ 240) = false := decide_eq_false c2
    clear c2
    by_cases c6 : a0 ≤ 2287
    · rw [if_pos c6] at H
      have c6b0 : decide (a0 ≤ 2287) = true := decide_eq_true c6
      clear c6
      obtain ⟨y114, hy114⟩ : ∃ y_ : List Int, y_ = (([(IntKind.u64.wrap (241 + (IntKind.u64.wrap (Int.tdiv (IntKind.u64.wrap (a0 - 240)) 256)))) % 256, (IntKind.u64.wrap (a0 - 240)) % 256] : List Int)) := ⟨_, rfl⟩
      replace H : (some (strOfNums y114)) = some r := by first | (rw [hy114]; with_reducible exact H) | (have H2_ := (Option.bind_some _ _).symm.trans H; rw [hy114]; with_reducible exact H2_) | (have H2_ := (Option.bind_some _ _).symm.trans H; with_reducible exact H2_) | with_reducible exact H | (rw [hy114]; exact H) | exact H
      have Ny114 := Aside0.mk hy114
      clear hy114
      obtain rfl := Option.some.inj H
      go_enter Tryd.func35, Tryd.ntmps35
      go_wp2_with (first | ((with_reducible refine gate_dst (N := 24) rfl ?_); refine Kd.R_lit (Kd.int .u8) _ 5 ?hg (N := 24) ?hd (xs := ([(IntKind.u64.wrap (241 + (IntKind.u64.wrap (Int.tdiv (IntKind.u64.wrap (a0 - 240)) 256)))) % 256, (IntKind.u64.wrap (a0 - 240)) % 256] : List Int)) (inner := [.int .u8 ((IntKind.u64.wrap (241 + (IntKind.u64.wrap (Int.tdiv (IntKind.u64.wrap (a0 - 240)) 256)))) % 256), .int .u8 ((IntKind.u64.wrap (a0 - 240)) % 256)]) (ok := fun _ => True) (okp := fun _ => True) ?hr ?hp (fun _ hk => hk) trivial (Below.refl _ _) (Nat.le_refl _) (by simp) ?_; (case hd => rfl); (case hg => rfl); (case hr => first | (go_simp; done) | (go_simp; rfl)); (case hp => exact (Reps.one (show Kd.M (Kd.int .u8) _ _ _ ((IntKind.u64.wrap (241 + (IntKind.u64.wrap (Int.tdiv (IntKind.u64.wrap (a0 - 240)) 256)))) % 256) [.int .u8 ((IntKind.u64.wrap (241 + (IntKind.u64.wrap (Int.tdiv (IntKind.u64.wrap (a0 - 240)) 256)))) % 256)] from rfl) (Reps.one (show Kd.M (Kd.int .u8) _ _ _ ((IntKind.u64.wrap (a0 - 240)) % 256) [.int .u8 ((IntKind.u64.wrap (a0 - 240)) % 256)] from rfl) (Reps.none _ _)))); intro v115 w7 ho8 hb hg_ hnew_; clear hg_ hnew_; (first | rw [← Ny114.out] at ho8 | (simp only [Int.reduceToNat] at ho8; rw [← Ny114.out] at ho8)); have n0_ := Aside0.mk (Kd.R_lower ho8 (below_size (by repeat (first | (with_reducible first | exact HB.out | apply below_alloc | apply pw_below_drewN | apply below_drew1) | exact HB.out)))); have n1_ := Aside0.mk (below_step (by repeat (first | (with_reducible first | exact HB.out | apply below_alloc | apply pw_below_drewN | apply below_drew1) | exact HB.out)) hb); clear HB; have HO116 := n0_; have HB := n1_; clear n0_ n1_; clear hb ho8; have hcv9 := own_string (P := Tryd.prog) Tryd.underlying72 Tryd.underlying5 Tryd.underlying9 (Kd.own_of_R HO116.out)))
      go_ret
      exact ⟨by first | rfl | (simp [errW_none, errW_some] <;> rfl) | (simp [*, errW_none, errW_some] <;> rfl), by repeat (first | (with_reducible first | exact HB.out | apply below_alloc | apply pw_below_drewN | apply below_drew1) | exact HB.out)⟩
    · rw [if_neg c6] at H
      have c6b0 : decide (a0 ≤ 2287) = false := decide_eq_false c6
      clear c6
      by_cases c10 : a0 ≤ 67823
      · rw [if_pos c10] at H
        have c10b0 : decide (a0 ≤ 67823) = true := decide_eq_true c10
        clear c10
        obtain ⟨y117, hy117⟩ : ∃ y_ : List Int, y_ = (([249, (IntKind.u64.wrap (Int.tdiv (IntKind.u64.wrap (a0 - 2288)) 256)) % 256, (IntKind.u64.wrap (a0 - 2288)) % 256] : List Int)) := ⟨_, rfl⟩
        replace H : (some (strOfNums y117)) = some r := by first | (rw [hy117]; with_reducible exact H) | (have H2_ := (Option.bind_some _ _).symm.trans H; rw [hy117]; with_reducible exact H2_) | (have H2_ := (Option.bind_some _ _).symm.trans H; with_reducible exact H2_) | with_reducible exact H | (rw [hy117]; exact H) | exact H
        have Ny117 := Aside0.mk hy117
        clear hy117
        obtain rfl := Option.some.inj H
        go_enter Tryd.func35, Tryd.ntmps35
        go_wp2_with (first | ((with_reducible refine gate_dst (N := 36) rfl ?_); refine Kd.R_lit (Kd.int .u8) _ 5 ?hg (N := 36) ?hd (xs := ([249, (IntKind.u64.wrap (Int.tdiv (IntKind.u64.wrap (a0 - 2288)) 256)) % 256, (IntKind.u64.wrap (a0 - 2288)) % 256] : List Int)) (inner := [.int .u8 249, .int .u8 ((IntKind.u64.wrap (Int.tdiv (IntKind.u64.wrap (a0 - 2288)) 256)) % 256), .int .u8 ((IntKind.u64.wrap (a0 - 2288)) % 256)]) (ok := fun _ => True) (okp := fun _ => True) ?hr ?hp (fun _ hk => hk) trivial (Below.refl _ _) (Nat.le_refl _) (by simp) ?_; (case hd => rfl); (case hg => rfl); (case hr => first | (go_simp; done) | (go_simp; rfl)); (case hp => exact (Reps.one (show Kd.M (Kd.int .u8) _ _ _ 249 [.int .u8 249] from rfl) (Reps.one (show Kd.M (Kd.int .u8) _ _ _ ((IntKind.u64.wrap (Int.tdiv (IntKind.u64.wrap (a0 - 2288)) 256)) % 256) [.int .u8 ((IntKind.u64.wrap (Int.tdiv (IntKind.u64.wrap (a0 - 2288)) 256)) % 256)] from rfl) (Reps.one (show Kd.M (Kd.int .u8) _ _ _ ((IntKind.u64.wrap (a0 - 2288)) % 256) [.int .u8 ((IntKind.u64.wrap (a0 - 2288)) % 256)] from rfl) (Reps.none _ _))))); intro v118 w11 ho12 hb hg_ hnew_; clear hg_ hnew_; (first | rw [← Ny117.out] at ho12 | (simp only [Int.reduceToNat] at ho12; rw [← Ny117.out] at ho12)); have n0_ := Aside0.mk (Kd.R_lower ho12 (below_size (by repeat (first | (with_reducible first | exact HB.out | apply below_alloc | apply pw_below_drewN | apply below_drew1) | exact HB.out)))); have n1_ := Aside0.mk (below_step (by repeat (first | (with_reducible first | exact HB.out | apply below_alloc | apply pw_below_drewN | apply below_drew1) | exact HB.out)) hb); clear HB; have HO119 := n0_; have HB := n1_; clear n0_ n1_; clear hb ho12; have hcv13 := own_string (P := Tryd.prog) Tryd.underlying72 Tryd.underlying5 Tryd.underlying9 (Kd.own_of_R HO119.out)))
        go_ret
        exact ⟨by first | rfl | (simp [errW_none, errW_some] <;> rfl) | (simp [*, errW_none, errW_some] <;> rfl), by repeat (first | (with_reducible first | exact HB.out | apply below_alloc | apply pw_below_drewN | apply below_drew1) | exact HB.out)⟩
      · rw [if_neg c10] at H
        have c10b0 : decide (a0 ≤ 67823) = false := decide_eq_false c10
        clear c10
        replace H := Option.bind_eq_some_iff.mp H
        obtain ⟨t120, A140, H⟩ := H
        replace H : (varint_Put.l0 k a0 t120 (([(wrap64 (247 + t120)) % 256] : List Int)) t120 0) = some r := H
        have A14 := Aside0.mk A140
        clear A140
        obtain ⟨y121, hy121⟩ : ∃ y_ : List Int, y_ = (([(wrap64 (247 + t120)) % 256] : List Int)) := ⟨_, rfl⟩
        replace H : (varint_Put.l0 k a0 t120 y121 t120 0) = some r := by first | (rw [hy121]; with_reducible exact H) | (have H2_ := (Option.bind_some _ _).symm.trans H; rw [hy121]; with_reducible exact H2_) | (have H2_ := (Option.bind_some _ _).symm.trans H; with_reducible exact H2_) | with_reducible exact H | (rw [hy121]; exact H) | exact H
        have Ny121 := Aside0.mk hy121
        clear hy121
        have H' := Aside0.mk H
        clear H
        go_enter Tryd.func35, Tryd.ntmps35
        go_wp2_with (first | ((with_reducible refine gate_callee (f := 51) rfl ?_); refine goesL_ (some 39) rfl rfl Tryd.func51 (by kernel_rfl) rfl #[.int .u64 a0] rfl (by (try simp only [List.map_toArray, List.map_cons, List.map_nil]); first | done | rfl | (simp only [List.length_drop, List.length_take]; rfl)) ?_; (with_reducible refine (varint_behind.calls a0 t120 _ A14.out).mono ?_); rintro e w15 ⟨rfl, hb⟩; refine ⟨_, rfl, ?_⟩; have n0_ := Aside0.mk (below_step (by repeat (first | (with_reducible first | exact HB.out | apply below_alloc | apply pw_below_drewN | apply below_drew1) | exact HB.out)) hb); clear HB; have HB := n0_; clear n0_; (try clear hb); (try clear hb2); (try clear hk); (try clear hi)) | ((with_reducible refine gate_dst (N := 43) rfl ?_); refine Kd.R_lit (Kd.int .u8) _ 5 ?hg (N := 43) ?hd (xs := ([(wrap64 (247 + t120)) % 256] : List Int)) (inner := [.int .u8 ((wrap64 (247 + t120)) % 256)]) (ok := fun _ => True) (okp := fun _ => True) ?hr ?hp (fun _ hk => hk) trivial (Below.refl _ _) (Nat.le_refl _) (by simp) ?_; (case hd => rfl); (case hg => rfl); (case hr => first | (go_simp; done) | (go_simp; rfl)); (case hp => exact (Reps.one (show Kd.M (Kd.int .u8) _ _ _ ((wrap64 (247 + t120)) % 256) [.int .u8 ((wrap64 (247 + t120)) % 256)] from rfl) (Reps.none _ _))); intro v122 w16 ho17 hb hg_ hnew_; clear hg_ hnew_; (first | rw [← Ny121.out] at ho17 | (simp only [Int.reduceToNat] at ho17; rw [← Ny121.out] at ho17)); have n0_ := Aside0.mk (Kd.R_lower ho17 (below_size (by repeat (first | (with_reducible first | exact HB.out | apply below_alloc | apply pw_below_drewN | apply below_drew1) | exact HB.out)))); have n1_ := Aside0.mk (below_step (by repeat (first | (with_reducible first | exact HB.out | apply below_alloc | apply pw_below_drewN | apply below_drew1) | exact HB.out)) hb); clear HB; have HO123 := n0_; have HB := n1_; clear n0_ n1_; clear hb ho17))
        go_loopg [4, 45] k (fun kq v4 v45 w' => ∃ (x4_1 : List Int) (x45_1 : Int), v45 = .int .i64 x45_1 ∧ Aside0 (varint_Put.l0 kq a0 t120 x4_1 t120 x45_1 = some r) ∧ Aside0 (kq ≤ k) ∧ Aside0 (Kd.R (Kd.int .u8) 5 w' w.heap.size (fun _ => True) v4 x4_1) ∧ Aside0 (Below w.heap.size w w'))
        case atStart => exact ⟨(y121), (0), (by first | rfl | (simp; done) | (simp [*]; done)), H', ⟨Nat.le_refl _⟩, ⟨by (with_reducible repeat (first | apply Kd.R_alloc | apply Kd.R_drewN | apply Kd.R_drew)); exact HO123.out⟩, ⟨by repeat (first | (with_reducible first | exact HB.out | apply below_alloc | apply pw_below_drewN | apply below_drew1) | exact HB.out)⟩⟩
        case round =>
          clear H'
          try clear c1
          try clear hcv1
          try clear c2
          try clear c2b0
          try clear p2
          try clear c3
          try clear c5
          try clear hcv5
          try clear c6
          try clear c6b0
          try clear p6
          try clear hcv9
          try clear c10
          try clear c10b0
          try clear hcv13
          obtain ⟨x4_1, x45_1, rfl, HA, HK1, HO_4, HB⟩ := hrel
          cases gk with
          | zero => exact absurd HA.out (by simp [varint_Put.l0])
          | succ k1 =>
            have H := HA.out
            clear HA
            simp only [varint_Put.l0] at H
            by_cases c18 : x45_1 < t120
            · rw [if_pos c18] at H
              have c18b0 : decide (x45_1 < t120) = true := decide_eq_true c18
              clear c18
              obtain ⟨ji19, hji19⟩ : ∃ j_ : Int, (wrap64 (8 * (wrap64 ((wrap64 (t120 - 1)) - x45_1)))) = j_ := ⟨_, rfl⟩
              replace H : (if 0 ≤ (ji19) then (if x4_1.length < 140737488355328 then (varint_Put.l0 k1 a0 t120 (x4_1 ++ [(shr .u64 a0 (ji19)) % 256]) t120 (wrap64 (x45_1 + 1))) else (none)) else (none)) = some r := by first | (rw [hji19] at H; exact H) | (simp only [hji19] at H ⊢; exact H)
              have hji19w : (IntKind.i64.wrap (8 * (wrap64 ((wrap64 (t120 - 1)) - x45_1)))) = ji19 := (i64_w _).trans hji19
              by_cases c20 : 0 ≤ (ji19)
              · rw [if_pos c20] at H
                have c20b0 := eq_true c20
                have c20b1 : decide (0 ≤ (ji19)) = true := decide_eq_true c20
                clear c20
                obtain ⟨ji21, hji21⟩ : ∃ j_ : Int, (shr .u64 a0 (ji19)) = j_ := ⟨_, rfl⟩
                replace H : (if x4_1.length < 140737488355328 then (varint_Put.l0 k1 a0 t120 (x4_1 ++ [(ji21) % 256]) t120 (wrap64 (x45_1 + 1))) else (none)) = some r := by first | (rw [hji21] at H; exact H) | (simp only [hji21] at H ⊢; exact H)
                have hji21_ : (a0 / 2 ^ min (ji19).toNat 64) = ji21 := hji21
                have hji21z : (ji19) ≤ 64 → (a0 / 2 ^ (ji19).toNat) = ji21 := shr_small hji21
                by_cases c22 : x4_1.length < 140737488355328
                · rw [if_pos c22] at H
                  have LMc22 := Aside0.mk c22
                  clear c22
                  obtain ⟨y124, hy124⟩ : ∃ y_ : List Int, y_ = (x4_1 ++ [(ji21) % 256]) := ⟨_, rfl⟩
                  replace H : (varint_Put.l0 k1 a0 t120 y124 t120 (wrap64 (x45_1 + 1))) = some r := by first | (rw [hy124]; with_reducible exact H) | (have H2_ := (Option.bind_some _ _).symm.trans H; rw [hy124]; with_reducible exact H2_) | (have H2_ := (Option.bind_some _ _).symm.trans H; with_reducible exact H2_) | with_reducible exact H | (rw [hy124]; exact H) | exact H
                  have Ny124 := Aside0.mk hy124
                  clear hy124
                  have H' := Aside0.mk H
                  clear H
                  go_wp2_with (first | ((with_reducible refine gate_builtin (b := .append) (xs := #[.tmp 48, .tmp 57]) rfl ?_); at_builtin; refine Kd.R_append (Kd.int .u8) (w0 := w) w.heap.size rfl (.tmp 48) (.tmp 57) 72 5 (.int .u8 0) 1 rfl Tryd.underlying72 info5 rfl (by decide) (by omega) u4 x4_1 ((ji21) % 256) [.int .u8 ((ji21) % 256)] (fun _ => True) (fun _ => False) rfl rfl ?aP (fun _ hk => hk.elim) ?aF ?aO ?aB ?aS ?aL ?_; (case aP => exact rfl); (case aB => exact (by repeat (first | (with_reducible first | exact HB.out | apply below_alloc | apply pw_below_drewN | apply below_drew1) | exact HB.out))); (case aF => exact (fun _ _ => trivial)); (case aO => exact (by (with_reducible repeat (first | apply Kd.R_alloc | apply Kd.R_drewN | apply Kd.R_drew)); exact HO_4.out)); (case aS => exact (below_size (by repeat (first | (with_reducible first | exact HB.out | apply below_alloc | apply pw_below_drewN | apply below_drew1) | exact HB.out)))); (case aL => have := LMc22.out; omega); intro v125 w23 ho hb hg hat; rw [← Ny124.out] at ho; have n0_ := Aside0.mk (hb); have n1_ := Aside0.mk (ho); clear HB; clear HO_4; have HB := n0_; have HO126 := n1_; clear n0_ n1_; clear ho hb hg hat))
                  go_roundg k1
                  case measure => have := HK1.out; omega
                  case rel => exact ⟨(y124), (wrap64 (x45_1 + 1)), (by first | rfl | (simp; done) | (simp [*]; done)), H', ⟨by have := HK1.out; omega⟩, ⟨by (with_reducible repeat (first | apply Kd.R_alloc | apply Kd.R_drewN | apply Kd.R_drew)); exact HO126.out⟩, ⟨by repeat (first | (with_reducible first | exact HB.out | apply below_alloc | apply pw_below_drewN | apply below_drew1) | exact HB.out)⟩⟩
                · rw [if_neg c22] at H
                  exact absurd H (by simp)
              · rw [if_neg c20] at H
                exact absurd H (by simp)
            · rw [if_neg c18] at H
              have c18b0 : decide (x45_1 < t120) = false := decide_eq_false c18
              clear c18
              obtain rfl := Option.some.inj H
              have hcv24 := own_string (P := Tryd.prog) Tryd.underlying72 Tryd.underlying5 Tryd.underlying9 (Kd.own_of_R HO_4.out)
              go_wp2
              go_ret
              exact ⟨by first | rfl | (simp [errW_none, errW_some] <;> rfl) | (simp [*, errW_none, errW_some] <;> rfl), by repeat (first | (with_reducible first | exact HB.out | apply below_alloc | apply pw_below_drewN | apply below_drew1) | exact HB.out)⟩
end Go.Proofs.YtdoaomoocikmaaaDoor.Pv
