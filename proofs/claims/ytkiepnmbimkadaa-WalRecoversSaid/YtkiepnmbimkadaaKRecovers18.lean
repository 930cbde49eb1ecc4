import Derived.Test.YtkiepnmbimkadaaKRecovers16
import Derived.Test.YtkiepnmbimkadaaKRecovers17
namespace Go.Proofs.Ytkiepnmbimkadaa.Pr
open Go.RowKit Go.Proofs.YtkiepnmbimkadaaW.PrintWords Go.Proofs.YtkiepnmbimkadaaW.PrintLast Go.Proofs.YtkiepnmbimkadaaW.PrintMore
attribute [local go_sem] max2_int min2_int max_two min_two max_three min_three max_four min_four
set_option linter.unusedVariables false
set_option linter.unusedSimpArgs false
def varint_Put.l0 : Nat → Int → Int → List Int → Int → Int → Option (ByteArray)
  | 0, _, _, _, _, _ => none
  | k + 1, x0, x3, x4, x44, x45 => if x45 < x44 then (if 0 ≤ (wrap64 (8 * (wrap64 ((wrap64 (x3 - 1)) - x45)))) then (if x4.length < 140737488355328 then (varint_Put.l0 k x0 x3 (x4 ++ [(shr .u64 x0 (wrap64 (8 * (wrap64 ((wrap64 (x3 - 1)) - x45))))) % 256]) x44 (wrap64 (x45 + 1))) else (none)) else (none)) else (some (strOfNums x4))
def varint_Put.f (k : Nat) (a0 : Int) : Option (ByteArray) := if a0 ≤ 240 then (some (strOfNums (([(a0) % 256] : List Int)))) else (if a0 ≤ 2287 then (some (strOfNums (([(IntKind.u64.wrap (241 + (IntKind.u64.wrap (Int.tdiv (IntKind.u64.wrap (a0 - 240)) 256)))) % 256, (IntKind.u64.wrap (a0 - 240)) % 256] : List Int)))) else (if a0 ≤ 67823 then (some (strOfNums (([249, (IntKind.u64.wrap (Int.tdiv (IntKind.u64.wrap (a0 - 2288)) 256)) % 256, (IntKind.u64.wrap (a0 - 2288)) % 256] : List Int)))) else ((varint_behind.f a0).bind fun t135 => (varint_Put.l0 k a0 t135 (([(wrap64 (247 + t135)) % 256] : List Int)) t135 0))))
set_option maxHeartbeats 8000000 in
set_option maxRecDepth 100000 in
theorem varint_Put.calls (k : Nat) (a0 : Int) (r : ByteArray) (w : World) (h : varint_Put.f k a0 = some r) :
    Calls Try.prog 58 #[.int .u64 a0] w fun e w' => e = .returned (.string r) ∧ Below w.heap.size w w' := by
  have HB := Aside0.mk (Below.refl w.heap.size w)
  have H : (if a0 ≤ 240 then (some (strOfNums (([(a0) % 256] : List Int)))) else (if a0 ≤ 2287 then (some (strOfNums (([(IntKind.u64.wrap (241 + (IntKind.u64.wrap (Int.tdiv (IntKind.u64.wrap (a0 - 240)) 256)))) % 256, (IntKind.u64.wrap (a0 - 240)) % 256] : List Int)))) else (if a0 ≤ 67823 then (some (strOfNums (([249, (IntKind.u64.wrap (Int.tdiv (IntKind.u64.wrap (a0 - 2288)) 256)) % 256, (IntKind.u64.wrap (a0 - 2288)) % 256] : List Int)))) else ((varint_behind.f a0).bind fun t135 => (varint_Put.l0 k a0 t135 (([(wrap64 (247 + t135)) % 256] : List Int)) t135 0))))) = some r := h
  clear h
  by_cases c2 : a0 ≤ 240
  · rw [if_pos c2] at H
    have c2b0 : decide (a0 ≤ 240) = true := decide_eq_true c2
    clear c2
    obtain ⟨y126, hy126⟩ : ∃ y_ : List Int, y_ = (([(a0) % 256] : List Int)) := ⟨_, rfl⟩
    replace H : (some (strOfNums y126)) = some r := by first | (rw [hy126]; with_reducible exact H) | (have H2_ := (Option.bind_some _ _).symm.trans H; rw [hy126]; with_reducible exact H2_) | (have H2_ := (Option.bind_some _ _).symm.trans H; with_reducible exact H2_) | with_reducible exact H | (rw [hy126]; exact H) | exact H
    have Ny126 := Aside0.mk hy126
    clear hy126
    obtain rfl := Option.some.inj H
    go_enter Try.func58, Try.ntmps58
    go_wp2_with (first | ((with_reducible refine gate_dst (N := 11) rfl ?_); refine Kd.R_lit (Kd.int .u8) _ 5 ?hg (N := 11) ?hd (xs := ([(a0) % 256] : List Int)) (inner := [.int .u8 ((a0) % 256)]) (ok := fun _ => True) (okp := fun _ => True) ?hr ?hp (fun _ hk => hk) trivial (Below.refl _ _) (Nat.le_refl _) (by simp) ?_; (case hd => rfl); (case hg => rfl); (case hr => first | (go_simp; done) | (go_simp; rfl)); (case hp => exact (Reps.one (show Kd.M (Kd.int .u8) _ _ _ ((a0) % 256) [.int .u8 ((a0) % 256)] from rfl) (Reps.none _ _))); intro v127 w3 ho4 hb hg_ hnew_; clear hg_ hnew_; (first | rw [← Ny126.out] at ho4 | (simp only [Int.reduceToNat] at ho4; rw [← Ny126.out] at ho4)); have n0_ := Aside0.mk (Kd.R_lower ho4 (below_size (by repeat (first | (with_reducible first | exact HB.out | apply below_alloc | apply pw_below_drewN | apply below_drew1) | exact HB.out)))); have n1_ := Aside0.mk (below_step (by repeat (first | (with_reducible first | exact HB.out | apply below_alloc | apply pw_below_drewN | apply below_drew1) | exact HB.out)) hb); clear HB; have HO128 := n0_; have HB := n1_; clear n0_ n1_; clear hb ho4; have hcv5 := own_string (P := Try.prog) Try.underlying77 Try.underlying5 Try.underlying9 (Kd.own_of_R HO128.out)))
    go_ret
    exact ⟨by first | rfl | (simp [errW_none, errW_some] <;> rfl) | (simp [*, errW_none, errW_some] <;> rfl), by repeat (first | (with_reducible first | exact HB.out | apply below_alloc | apply pw_below_drewN | apply below_drew1) | exact HB.out)⟩
  · rw [if_neg c2] at H
    have c2b0 : decide (a0 ≤ 240) = false := decide_eq_false c2
    clear c2
    by_cases c6 : a0 ≤ 2287
    · rw [if_pos c6] at H
      have c6b0 : decide (a0 ≤ 2287) = true := decide_eq_true c6
      clear c6
      obtain ⟨y129, hy129⟩ : ∃ y_ : List Int, y_ = (([(IntKind.u64.wrap (241 + (IntKind.u64.wrap (Int.tdiv (IntKind.u64.wrap (a0 - 240)) 256)))) % 256, (IntKind.u64.wrap (a0 - 240)) % 256] : List Int)) := ⟨_, rfl⟩
      replace H : (some (strOfNums y129)) = some r := by first | (rw [hy129]; with_reducible exact H) | (have H2_ := (Option.bind_some _ _).symm.trans H; rw [hy129]; with_reducible exact H2_) | (have H2_ := (Option.bind_some _ _).symm.trans H; with_reducible exact H2_) | with_reducible exact H | (rw [hy129]; exact H) | exact H
      have Ny129 := Aside0.mk hy129
      clear hy129
      obtain rfl := Option.some.inj H
      go_enter Try.func58, Try.ntmps58
      go_wp2_with (first | ((with_reducible refine gate_dst (N := 24) rfl ?_); refine Kd.R_lit (Kd.int .u8) _ 5 ?hg (N := 24) ?hd (xs := ([(IntKind.u64.wrap (241 + (IntKind.u64.wrap (Int.tdiv (IntKind.u64.wrap (a0 - 240)) 256)))) % 256, (IntKind.u64.wrap (a0 - 240)) % 256] : List Int)) (inner := [.int .u8 ((IntKind.u64.wrap (241 + (IntKind.u64.wrap (Int.tdiv (IntKind.u64.wrap (a0 - 240)) 256)))) % 256), .int .u8 ((IntKind.u64.wrap (a0 - 240)) % 256)]) (ok := fun _ => True) (okp := fun _ => True) ?hr ?hp (fun _ hk => hk) trivial (Below.refl _ _) (Nat.le_refl _) (by simp) ?_; (case hd => rfl); (case hg => rfl); (case hr => first | (go_simp; done) | (go_simp; rfl)); (case hp => exact (Reps.one (show Kd.M (Kd.int .u8) _ _ _ ((IntKind.u64.wrap (241 + (IntKind.u64.wrap (Int.tdiv (IntKind.u64.wrap (a0 - 240)) 256)))) % 256) [.int .u8 ((IntKind.u64.wrap (241 + (IntKind.u64.wrap (Int.tdiv (IntKind.u64.wrap (a0 - 240)) 256)))) % 256)] from rfl) (Reps.one (show Kd.M (Kd.int .u8) _ _ _ ((IntKind.u64.wrap (a0 - 240)) % 256) [.int .u8 ((IntKind.u64.wrap (a0 - 240)) % 256)] from rfl) (Reps.none _ _)))); intro v130 w7 ho8 hb hg_ hnew_; clear hg_ hnew_; (first | rw [← Ny129.out] at ho8 | (simp only [Int.reduceToNat] at ho8; rw [← Ny129.out] at ho8)); have n0_ := Aside0.mk (Kd.R_lower ho8 (below_size (by repeat (first | (with_reducible first | exact HB.out | apply below_alloc | apply pw_below_drewN | apply below_drew1) | exact HB.out)))); have n1_ := Aside0.mk (below_step (by repeat (first | (with_reducible first | exact HB.out | apply below_alloc | apply pw_below_drewN | apply below_drew1) | exact HB.out)) hb); clear HB; have HO131 := n0_; have HB := n1_; clear n0_ n1_; clear hb ho8; have hcv9 := own_string (P := Try.prog) Try.underlying77 Try.underlying5 Try.underlying9 (Kd.own_of_R HO131.out)))
      go_ret
      exact ⟨by first | rfl | (simp [errW_none, errW_some] <;> rfl) | (simp [*, errW_none, errW_some] <;> rfl), by repeat (first | (with_reducible first | exact HB.out | apply below_alloc | apply pw_below_drewN | apply below_drew1) | exact HB.out)⟩
    · rw [if_neg c6] at H
      have c6b0 : decide (a0 ≤ 2287) = false := decide_eq_false c6
      clear c6
      by_cases c10 : a0 ≤ 67823
      · rw [if_pos c10] at H
        have c10b0 : decide (a0 ≤ 67823) = true := decide_eq_true c10
        clear c10
        obtain ⟨y132, hy132⟩ : ∃ y_ : List Int, y_ = (([249, (IntKind.u64.wrap (Int.tdiv (IntKind.u64.wrap (a0 - 2288)) 256)) % 256, (IntKind.u64.wrap (a0 - 2288)) % 256] : List Int)) := ⟨_, rfl⟩
        replace H : (some (strOfNums y132)) = some r := by first | (rw [hy132]; with_reducible exact H) | (have H2_ := (Option.bind_some _ _).symm.trans H; rw [hy132]; with_reducible exact H2_) | (have H2_ := (Option.bind_some _ _).symm.trans H; with_reducible exact H2_) | with_reducible exact H | (rw [hy132]; exact H) | exact H
        have Ny132 := Aside0.mk hy132
        clear hy132
        obtain rfl := Option.some.inj H
        go_enter Try.func58, Try.ntmps58
        go_wp2_with (first | ((with_reducible refine gate_dst (N := 36) rfl ?_); refine Kd.R_lit (Kd.int .u8) _ 5 ?hg (N := 36) ?hd (xs := ([249, (IntKind.u64.wrap (Int.tdiv (IntKind.u64.wrap (a0 - 2288)) 256)) % 256, (IntKind.u64.wrap (a0 - 2288)) % 256] : List Int)) (inner := [.int .u8 249, .int .u8 ((IntKind.u64.wrap (Int.tdiv (IntKind.u64.wrap (a0 - 2288)) 256)) % 256), .int .u8 ((IntKind.u64.wrap (a0 - 2288)) % 256)]) (ok := fun _ => True) (okp := fun _ => True) ?hr ?hp (fun _ hk => hk) trivial (Below.refl _ _) (Nat.le_refl _) (by simp) ?_; (case hd => rfl); (case hg => rfl); (case hr => first | (go_simp; done) | (go_simp; rfl)); (case hp => exact (Reps.one (show Kd.M (Kd.int .u8) _ _ _ 249 [.int .u8 249] from rfl) (Reps.one (show Kd.M (Kd.int .u8) _ _ _ ((IntKind.u64.wrap (Int.tdiv (IntKind.u64.wrap (a0 - 2288)) 256)) % 256) [.int .u8 ((IntKind.u64.wrap (Int.tdiv (IntKind.u64.wrap (a0 - 2288)) 256)) % 256)] from rfl) (Reps.one (show Kd.M (Kd.int .u8) _ _ _ ((IntKind.u64.wrap (a0 - 2288)) % 256) [.int .u8 ((IntKind.u64.wrap (a0 - 2288)) % 256)] from rfl) (Reps.none _ _))))); intro v133 w11 ho12 hb hg_ hnew_; clear hg_ hnew_; (first | rw [← Ny132.out] at ho12 | (simp only [Int.reduceToNat] at ho12; rw [← Ny132.out] at ho12)); have n0_ := Aside0.mk (Kd.R_lower ho12 (below_size (by repeat (first | (with_reducible first | exact HB.out | apply below_alloc | apply pw_below_drewN | apply below_drew1) | exact HB.out)))); have n1_ := Aside0.mk (below_step (by repeat (first | (with_reducible first | exact HB.out | apply below_alloc | apply pw_below_drewN | apply below_drew1) | exact HB.out)) hb); clear HB; have HO134 := n0_; have HB := n1_; clear n0_ n1_; clear hb ho12; have hcv13 := own_string (P := Try.prog) Try.underlying77 Try.underlying5 Try.underlying9 (Kd.own_of_R HO134.out)))
        go_ret
        exact ⟨by first | rfl | (simp [errW_none, errW_some] <;> rfl) | (simp [*, errW_none, errW_some] <;> rfl), by repeat (first | (with_reducible first | exact HB.out | apply below_alloc | apply pw_below_drewN | apply below_drew1) | exact HB.out)⟩
      · rw [if_neg c10] at H
        have c10b0 : decide (a0 ≤ 67823) = false := decide_eq_false c10
        clear c10
        replace H := Option.bind_eq_some_iff.mp H
        obtain ⟨t135, A140, H⟩ := H
        replace H : (varint_Put.l0 k a0 t135 (([(wrap64 (247 + t135)) % 256] : List Int)) t135 0) = some r := H
        have A14 := Aside0.mk A140
        clear A140
        obtain ⟨y136, hy136⟩ : ∃ y_ : List Int, y_ = (([(wrap64 (247 + t135)) % 256] : List Int)) := ⟨_, rfl⟩
        replace H : (varint_Put.l0 k a0 t135 y136 t135 0) = some r := by first | (rw [hy136]; with_reducible exact H) | (have H2_ := (Option.bind_some _ _).symm.trans H; rw [hy136]; with_reducible exact H2_) | (have H2_ := (Option.bind_some _ _).symm.trans H; with_reducible exact H2_) | with_reducible exact H | (rw [hy136]; exact H) | exact H
        have Ny136 := Aside0.mk hy136
        clear hy136
        have H' := Aside0.mk H
        clear H
        go_enter Try.func58, Try.ntmps58
        go_wp2_with (first | ((with_reducible refine gate_callee (f := 71) rfl ?_); refine goesL_ (some 39) rfl rfl Try.func71 (by kernel_rfl) rfl #[.int .u64 a0] rfl (by (try simp only [List.map_toArray, List.map_cons, List.map_nil]); first | done | rfl | (simp only [List.length_drop, List.length_take]; rfl)) ?_; (with_reducible refine (varint_behind.calls a0 t135 _ A14.out).mono ?_); rintro e w15 ⟨rfl, hb⟩; refine ⟨_, rfl, ?_⟩; have n0_ := Aside0.mk (below_step (by repeat (first | (with_reducible first | exact HB.out | apply below_alloc | apply pw_below_drewN | apply below_drew1) | exact HB.out)) hb); clear HB; have HB := n0_; clear n0_; (try clear hb); (try clear hb2); (try clear hk); (try clear hi)) | ((with_reducible refine gate_dst (N := 43) rfl ?_); refine Kd.R_lit (Kd.int .u8) _ 5 ?hg (N := 43) ?hd (xs := ([(wrap64 (247 + t135)) % 256] : List Int)) (inner := [.int .u8 ((wrap64 (247 + t135)) % 256)]) (ok := fun _ => True) (okp := fun _ => True) ?hr ?hp (fun _ hk => hk) trivial (Below.refl _ _) (Nat.le_refl _) (by simp) ?_; (case hd => rfl); (case hg => rfl); (case hr => first | (go_simp; done) | (go_simp; rfl)); (case hp => exact (Reps.one (show Kd.M (Kd.int .u8) _ _ _ ((wrap64 (247 + t135)) % 256) [.int .u8 ((wrap64 (247 + t135)) % 256)] from rfl) (Reps.none _ _))); intro v137 w16 ho17 hb hg_ hnew_; clear hg_ hnew_; (first | rw [← Ny136.out] at ho17 | (simp only [Int.reduceToNat] at ho17; rw [← Ny136.out] at ho17)); have n0_ := Aside0.mk (Kd.R_lower ho17 (below_size (by repeat (first | (with_reducible first | exact HB.out | apply below_alloc | apply pw_below_drewN | apply below_drew1) | exact HB.out)))); have n1_ := Aside0.mk (below_step (by repeat (first | (with_reducible first | exact HB.out | apply below_alloc | apply pw_below_drewN | apply below_drew1) | exact HB.out)) hb); clear HB; have HO138 := n0_; have HB := n1_; clear n0_ n1_; clear hb ho17))
        go_loopg [4, 45] k (fun kq v4 v45 w' => ∃ (x4_1 : List Int) (x45_1 : Int), v45 = .int .i64 x45_1 ∧ Aside0 (varint_Put.l0 kq a0 t135 x4_1 t135 x45_1 = some r) ∧ Aside0 (kq ≤ k) ∧ Aside0 (Kd.R (Kd.int .u8) 5 w' w.heap.size (fun _ => True) v4 x4_1) ∧ Aside0 (Below w.heap.size w w'))
        case atStart => exact ⟨(y136), (0), (by first | rfl | (simp; done) | (simp [*]; done)), H', ⟨Nat.le_refl _⟩, ⟨by (with_reducible repeat (first | apply Kd.R_alloc | apply Kd.R_drewN | apply Kd.R_drew)); exact HO138.out⟩, ⟨by repeat (first | (with_reducible first | exact HB.out | apply below_alloc | apply pw_below_drewN | apply below_drew1) | exact HB.out)⟩⟩
        case round =>
          clear H'
          try clear c1
          try clear hcv1
          try clear c2
          try clear c2b0
          try clear p2
          try clear c5
          try clear hcv5
          try clear c6
          try clear c6b0
          try clear p6
          try clear c7
          try clear hcv9
          try clear c10
          try clear c10b0
          try clear hcv13
          obtain ⟨x4_1, x45_1, rfl, HA, HK1, HO_4, HB⟩ := hrel
          cases gk with
          | zero => exact absurd HA.out (by simp [varint_Put.l0])
          | succ k1 =>
            have H := HA.out
            clear HA
            simp only [varint_Put.l0] at H
            by_cases c18 : x45_1 < t135
            · rw [if_pos c18] at H
              have c18b0 : decide (x45_1 < t135) = true := decide_eq_true c18
              clear c18
              obtain ⟨ji19, hji19⟩ : ∃ j_ : Int, (wrap64 (8 * (wrap64 ((wrap64 (t135 - 1)) - x45_1)))) = j_ := ⟨_, rfl⟩
              replace H : (if 0 ≤ (ji19) then (if x4_1.length < 140737488355328 then (varint_Put.l0 k1 a0 t135 (x4_1 ++ [(shr .u64 a0 (ji19)) % 256]) t135 (wrap64 (x45_1 + 1))) else (none)) else (none)) = some r := by first | (rw [hji19] at H; exact H) | (simp only [hji19] at H ⊢; exact H)
              have hji19w : (IntKind.i64.wrap (8 * (wrap64 ((wrap64 (t135 - 1)) - x45_1)))) = ji19 := (i64_w _).trans hji19
              by_cases c20 : 0 ≤ (ji19)
              · rw [if_pos c20] at H
                have c20b0 := eq_true c20
                have c20b1 : decide (0 ≤ (ji19)) = true := decide_eq_true c20
                clear c20
                obtain ⟨ji21, hji21⟩ : ∃ j_ : Int, (shr .u64 a0 (ji19)) = j_ := ⟨_, rfl⟩
                replace H : (if x4_1.length < 140737488355328 then (varint_Put.l0 k1 a0 t135 (x4_1 ++ [(ji21) % 256]) t135 (wrap64 (x45_1 + 1))) else (none)) = some r := by first | (rw [hji21] at H; exact H) | (simp only [hji21] at H ⊢; exact H)
                have hji21_ : (a0 / 2 ^ min (ji19).toNat 64) = ji21 := hji21
                have hji21z : (ji19) ≤ 64 → (a0 / 2 ^ (ji19).toNat) = ji21 := shr_small hji21
                by_cases c22 : x4_1.length < 140737488355328
                · rw [if_pos c22] at H
                  have LMc22 := Aside0.mk c22
                  clear c22
                  obtain ⟨y139, hy139⟩ : ∃ y_ : List Int, y_ = (x4_1 ++ [(ji21) % 256]) := ⟨_, rfl⟩
                  replace H : (varint_Put.l0 k1 a0 t135 y139 t135 (wrap64 (x45_1 + 1))) = some r := by first | (rw [hy139]; with_reducible exact H) | (have H2_ := (Option.bind_some _ _).symm.trans H; rw [hy139]; with_reducible exact H2_) | (have H2_ := (Option.bind_some _ _).symm.trans H; with_reducible exact H2_) | with_reducible exact H | (rw [hy139]; exact H) | exact H
                  have Ny139 := Aside0.mk hy139
                  clear hy139
                  have H' := Aside0.mk H
                  clear H
                  go_wp2_with (first | ((with_reducible refine gate_builtin (b := .append) (xs := #[.tmp 48, .tmp 57]) rfl ?_); at_builtin; refine Kd.R_append (Kd.int .u8) (w0 := w) w.heap.size rfl (.tmp 48) (.tmp 57) 77 5 (.int .u8 0) 1 rfl Try.underlying77 info5 rfl (by decide) (by omega) u4 x4_1 ((ji21) % 256) [.int .u8 ((ji21) % 256)] (fun _ => True) (fun _ => False) rfl rfl ?aP (fun _ hk => hk.elim) ?aF ?aO ?aB ?aS ?aL ?_; (case aP => exact rfl); (case aB => exact (by repeat (first | (with_reducible first | exact HB.out | apply below_alloc | apply pw_below_drewN | apply below_drew1) | exact HB.out))); (case aF => exact (fun _ _ => trivial)); (case aO => exact (by (with_reducible repeat (first | apply Kd.R_alloc | apply Kd.R_drewN | apply Kd.R_drew)); exact HO_4.out)); (case aS => exact (below_size (by repeat (first | (with_reducible first | exact HB.out | apply below_alloc | apply pw_below_drewN | apply below_drew1) | exact HB.out)))); (case aL => have := LMc22.out; omega); intro v140 w23 ho hb hg hat; rw [← Ny139.out] at ho; have n0_ := Aside0.mk (hb); have n1_ := Aside0.mk (ho); clear HB; clear HO_4; have HB := n0_; have HO141 := n1_; clear n0_ n1_; clear ho hb hg hat))
                  go_roundg k1
                  case measure => have := HK1.out; omega
                  case rel => exact ⟨(y139), (wrap64 (x45_1 + 1)), (by first | rfl | (simp; done) | (simp [*]; done)), H', ⟨by have := HK1.out; omega⟩, ⟨by (with_reducible repeat (first | apply Kd.R_alloc | apply Kd.R_drewN | apply Kd.R_drew)); exact HO141.out⟩, ⟨by repeat (first | (with_reducible first | exact HB.out | apply below_alloc | apply pw_below_drewN | apply below_drew1) | exact HB.out)⟩⟩
                · rw [if_neg c22] at H
                  exact absurd H (by simp)
              · rw [if_neg c20] at H
                exact absurd H (by simp)
            · rw [if_neg c18] at H
              have c18b0 : decide (x45_1 < t135) = false := decide_eq_false c18
              clear c18
              obtain rfl := Option.some.inj H
              have hcv24 := own_string (P := Try.prog) Try.underlying77 Try.underlying5 Try.underlying9 (Kd.own_of_R HO_4.out)
              go_wp2
              go_ret
              exact ⟨by first | rfl | (simp [errW_none, errW_some] <;> rfl) | (simp [*, errW_none, errW_some] <;> rfl), by repeat (first | (with_reducible first | exact HB.out | apply below_alloc | apply pw_below_drewN | apply below_drew1) | exact HB.out)⟩
def varint_Text.f (k : Nat) (a0 : ByteArray) : Option (ByteArray) := (varint_Put.f k (IntKind.u64.wrap ((a0.size : Int)))).bind fun t142 => (if t142.size + a0.size ≤ 9223372036854775807 then (some (t142 ++ a0)) else (none))
set_option maxHeartbeats 8000000 in
set_option maxRecDepth 100000 in
theorem varint_Text.calls (k : Nat) (a0 : ByteArray) (r : ByteArray) (w : World) (h : varint_Text.f k a0 = some r) :
    Calls Try.prog 70 #[.string a0] w fun e w' => e = .returned (.string r) ∧ Below w.heap.size w w' := by
  have HB := Aside0.mk (Below.refl w.heap.size w)
  have H : ((varint_Put.f k (IntKind.u64.wrap ((a0.size : Int)))).bind fun t142 => (if t142.size + a0.size ≤ 9223372036854775807 then (some (t142 ++ a0)) else (none))) = some r := h
  clear h
  replace H := Option.bind_eq_some_iff.mp H
  obtain ⟨t142, A20, H⟩ := H
  replace H : (if t142.size + a0.size ≤ 9223372036854775807 then (some (t142 ++ a0)) else (none)) = some r := H
  have A2 := Aside0.mk A20
  clear A20
  by_cases c3 : t142.size + a0.size ≤ 9223372036854775807
  · rw [if_pos c3] at H
    have c3b0 := eq_true c3
    have c3b1 : decide (t142.size + a0.size ≤ 9223372036854775807) = true := decide_eq_true c3
    try have c3b2 : (9223372036854775807 < t142.size + a0.size) = False := eq_false (Nat.not_lt.2 c3)
    obtain rfl := Option.some.inj H
    rw [show IntKind.u64.wrap ((a0.size : Int)) = (a0.size : Int) from IntWalk.u64_in _ (by omega)] at A2
    go_enter Try.func70, Try.ntmps70
    go_wp2_with (first | ((with_reducible refine gate_callee (f := 58) rfl ?_); refine goesL_ (some 6) rfl rfl Try.func58 (by kernel_rfl) rfl #[.int .u64 (a0.size : Int)] rfl (by (try simp only [List.map_toArray, List.map_cons, List.map_nil]); first | done | rfl | (simp only [List.length_drop, List.length_take]; rfl)) ?_; (with_reducible refine (varint_Put.calls k (a0.size : Int) t142 _ A2.out).mono ?_); rintro e w4 ⟨rfl, hb⟩; refine ⟨_, rfl, ?_⟩; have n0_ := Aside0.mk (below_step (by repeat (first | (with_reducible first | exact HB.out | apply below_alloc | apply pw_below_drewN | apply below_drew1) | exact HB.out)) hb); clear HB; have HB := n0_; clear n0_; (try clear hb); (try clear hb2); (try clear hk); (try clear hi)))
    go_ret
    exact ⟨by first | rfl | (simp [errW_none, errW_some] <;> rfl) | (simp [*, errW_none, errW_some] <;> rfl), by repeat (first | (with_reducible first | exact HB.out | apply below_alloc | apply pw_below_drewN | apply below_drew1) | exact HB.out)⟩
  · rw [if_neg c3] at H
    exact absurd H (by simp)
def check_Seal.f (k : Nat) (a0 : ByteArray) : Option (ByteArray) := (varint_Text.f k a0).bind fun t143 => ((check_Sum.f a0).bind fun t144 => ((check_mark.f t144).bind fun t145 => (if t143.size + t145.size ≤ 9223372036854775807 then (some (t143 ++ t145)) else (none))))
set_option maxHeartbeats 8000000 in
set_option maxRecDepth 100000 in
theorem check_Seal.calls (k : Nat) (a0 : ByteArray) (r : ByteArray) (w : World) (h : check_Seal.f k a0 = some r) :
    Calls Try.prog 57 #[.string a0] w fun e w' => e = .returned (.string r) ∧ Below w.heap.size w w' := by
  have HB := Aside0.mk (Below.refl w.heap.size w)
  have H : ((varint_Text.f k a0).bind fun t143 => ((check_Sum.f a0).bind fun t144 => ((check_mark.f t144).bind fun t145 => (if t143.size + t145.size ≤ 9223372036854775807 then (some (t143 ++ t145)) else (none))))) = some r := h
  clear h
  replace H := Option.bind_eq_some_iff.mp H
  obtain ⟨t143, A20, H⟩ := H
  replace H : ((check_Sum.f a0).bind fun t144 => ((check_mark.f t144).bind fun t145 => (if t143.size + t145.size ≤ 9223372036854775807 then (some (t143 ++ t145)) else (none)))) = some r := H
  have A2 := Aside0.mk A20
  clear A20
  replace H := Option.bind_eq_some_iff.mp H
  obtain ⟨t144, A30, H⟩ := H
  replace H : ((check_mark.f t144).bind fun t145 => (if t143.size + t145.size ≤ 9223372036854775807 then (some (t143 ++ t145)) else (none))) = some r := H
  have A3 := Aside0.mk A30
  clear A30
  replace H := Option.bind_eq_some_iff.mp H
  obtain ⟨t145, A40, H⟩ := H
  replace H : (if t143.size + t145.size ≤ 9223372036854775807 then (some (t143 ++ t145)) else (none)) = some r := H
  have A4 := Aside0.mk A40
  clear A40
  by_cases c5 : t143.size + t145.size ≤ 9223372036854775807
  · rw [if_pos c5] at H
    have c5b0 := eq_true c5
    have c5b1 : decide (t143.size + t145.size ≤ 9223372036854775807) = true := decide_eq_true c5
    try have c5b2 : (9223372036854775807 < t143.size + t145.size) = False := eq_false (Nat.not_lt.2 c5)
    obtain rfl := Option.some.inj H
    go_enter Try.func57, Try.ntmps57
    go_wp2_with (first | ((with_reducible refine gate_callee (f := 70) rfl ?_); refine goesL_ (some 4) rfl rfl Try.func70 (by kernel_rfl) rfl #[.string a0] rfl (by (try simp only [List.map_toArray, List.map_cons, List.map_nil]); first | done | rfl | (simp only [List.length_drop, List.length_take]; rfl)) ?_; (with_reducible refine (varint_Text.calls k a0 t143 _ A2.out).mono ?_); rintro e w6 ⟨rfl, hb⟩; refine ⟨_, rfl, ?_⟩; have n0_ := Aside0.mk (below_step (by repeat (first | (with_reducible first | exact HB.out | apply below_alloc | apply pw_below_drewN | apply below_drew1) | exact HB.out)) hb); clear HB; have HB := n0_; clear n0_; (try clear hb); (try clear hb2); (try clear hk); (try clear hi)) | ((with_reducible refine gate_callee (f := 67) rfl ?_); refine goesL_ (some 6) rfl rfl Try.func67 (by kernel_rfl) rfl #[.string a0] rfl (by (try simp only [List.map_toArray, List.map_cons, List.map_nil]); first | done | rfl | (simp only [List.length_drop, List.length_take]; rfl)) ?_; (with_reducible refine (check_Sum.calls a0 t144 _ A3.out).mono ?_); rintro e w7 ⟨rfl, hb⟩; refine ⟨_, rfl, ?_⟩; have n0_ := Aside0.mk (below_step (by repeat (first | (with_reducible first | exact HB.out | apply below_alloc | apply pw_below_drewN | apply below_drew1) | exact HB.out)) hb); clear HB; have HB := n0_; clear n0_; (try clear hb); (try clear hb2); (try clear hk); (try clear hi)) | ((with_reducible refine gate_callee (f := 66) rfl ?_); refine goesL_ (some 7) rfl rfl Try.func66 (by kernel_rfl) rfl #[.int .u32 t144] rfl (by (try simp only [List.map_toArray, List.map_cons, List.map_nil]); first | done | rfl | (simp only [List.length_drop, List.length_take]; rfl)) ?_; (with_reducible refine (check_mark.calls t144 t145 _ A4.out).mono ?_); rintro e w8 ⟨rfl, hb⟩; refine ⟨_, rfl, ?_⟩; have n0_ := Aside0.mk (below_step (by repeat (first | (with_reducible first | exact HB.out | apply below_alloc | apply pw_below_drewN | apply below_drew1) | exact HB.out)) hb); clear HB; have HB := n0_; clear n0_; (try clear hb); (try clear hb2); (try clear hk); (try clear hi)))
    go_ret
    exact ⟨by first | rfl | (simp [errW_none, errW_some] <;> rfl) | (simp [*, errW_none, errW_some] <;> rfl), by repeat (first | (with_reducible first | exact HB.out | apply below_alloc | apply pw_below_drewN | apply below_drew1) | exact HB.out)⟩
  · rw [if_neg c5] at H
    exact absurd H (by simp)
end Go.Proofs.Ytkiepnmbimkadaa.Pr
