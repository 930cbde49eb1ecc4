import Derived.Test.YtjjimkmbbifbjaaDoorProg
import Derived.Below
import Derived.Deep.Draws
import Derived.Deep.AppendLies
import Derived.Maps.AppendAt
import Derived.OwnWalk
import Derived.Laws.BytesArg
import Derived.Laws.MakeOwn
import Derived.Laws.OwnMore
import Derived.Deep.OwnRows
import Derived.Tactics
import Derived.Lib.ConvBytes
import Derived.Laws.Slices
import Derived.WalkKit
import Derived.KernelRfl
import Derived.RowKit3
import Derived.Deep.LoopGhost
import Derived.Deep.QuietTactic
import Derived.BigQuiet
import Derived.WideLaws
import Derived.Deep.DeepCutAuto
import Derived.Deep.CutBlock
import Derived.Deep.RegionHeld3
import Derived.Laws.Rows
import Derived.Lib.AppendStr
import Derived.ArgAppend
import Derived.Laws.IdiomCopy
import Derived.OrdersHeld
import Derived.Laws.BitsLemmas
import Derived.RowKit
import Derived.Test.YtjjimkmbbifbjaaDoorKCuts0
import Derived.Test.YtjjimkmbbifbjaaDoorKCuts4
import Derived.Test.YtjjimkmbbifbjaaDoorKCuts10
import Derived.Test.YtjjimkmbbifbjaaDoorKCuts11
import Derived.Test.YtjjimkmbbifbjaaDoorKCuts6
section
namespace Go.Proofs.YtjjimkmbbifbjaaDoor.Pv
open Go.RowKit Go.Proofs.YtjjimkmbbifbjaaDoorW.PrintWords Go.Proofs.YtjjimkmbbifbjaaDoorW.PrintLast Go.Proofs.YtjjimkmbbifbjaaDoorW.PrintMore
attribute [local go_sem] max2_int min2_int max_two min_two max_three min_three max_four min_four
set_option linter.unusedVariables false
set_option linter.unusedSimpArgs false
def errW : Option Int → Value
 | none => .nilIface
 | some c => .iface 0 (.int .i64 c)
theorem errW_none : errW none = .nilIface := rfl
theorem errW_some (c : Int) : errW (some c) = .iface 0 (.int .i64 c) := rfl
theorem info5 : (Tryd.prog.info? 5).map (fun i => (i.zero, i.size, i.bytes)) = some (some (.int .u8 0), 1, 1) := by kernel_rfl
theorem info9 : (Tryd.prog.info? 9).map (fun i => (i.zero, i.size, i.bytes)) = some (some (.string ⟨#[]⟩), 1, 16) := by kernel_rfl
end Go.Proofs.YtjjimkmbbifbjaaDoor.Pv
end
section
namespace Go.Proofs.YtjjimkmbbifbjaaDoor.Pv
open Go.RowKit Go.Proofs.YtjjimkmbbifbjaaDoorW.PrintWords Go.Proofs.YtjjimkmbbifbjaaDoorW.PrintLast Go.Proofs.YtjjimkmbbifbjaaDoorW.PrintMore
attribute [local go_sem] max2_int min2_int max_two min_two max_three min_three max_four min_four
set_option linter.unusedVariables false
set_option linter.unusedSimpArgs false
def varint_Put.l0 : Nat → Int → Int → List Int → Int → Int → Option (ByteArray)
 | 0, _, _, _, _, _ => none
 | k + 1, x0, x3, x4, x44, x45 => if x45 < x44 then (if 0 ≤ (wrap64 (8 * (wrap64 ((wrap64 (x3 - 1)) - x45)))) then (if x4.length < 140737488355328 then (varint_Put.l0 k x0 x3 (x4 ++ [(shr .u64 x0 (wrap64 (8 * (wrap64 ((wrap64 (x3 - 1)) - x45))))) % 256]) x44 (wrap64 (x45 + 1))) else (none)) else (none)) else (some (strOfNums x4))
def varint_Put.f (k : Nat) (a0 : Int) : Option (ByteArray) := if a0 ≤ 240 then (some (strOfNums (([(a0) % 256] : List Int)))) else (if a0 ≤ 2287 then (some (strOfNums (([(IntKind.u64.wrap (241 + (IntKind.u64.wrap (Int.tdiv (IntKind.u64.wrap (a0 - 240)) 256)))) % 256, (IntKind.u64.wrap (a0 - 240)) % 256] : List Int)))) else (if a0 ≤ 67823 then (some (strOfNums (([249, (IntKind.u64.wrap (Int.tdiv (IntKind.u64.wrap (a0 - 2288)) 256)) % 256, (IntKind.u64.wrap (a0 - 2288)) % 256] : List Int)))) else ((varint_behind.f a0).bind fun t120 => (varint_Put.l0 k a0 t120 (([(wrap64 (247 + t120)) % 256] : List Int)) t120 0))))
set_option maxHeartbeats 8000000 in
set_option maxRecDepth 100000 in
theorem varint_Put.calls (k : Nat) (a0 : Int) (r : ByteArray) (w : World) (h : varint_Put.f k a0 = some r) :
  Calls Tryd.prog 42 #[.int .u64 a0] w fun e w' => e = .returned (.string r) ∧ Below w.heap.size w w' := by
 have HB := Aside0.mk (Below.refl w.heap.size w)
 have H : (if a0 ≤ 240 then (some (strOfNums (([(a0) % 256] : List Int)))) else (if a0 ≤ 2287 then (some (strOfNums (([(IntKind.u64.wrap (241 + (IntKind.u64.wrap (Int.tdiv (IntKind.u64.wrap (a0 - 240)) 256)))) % 256, (IntKind.u64.wrap (a0 - 240)) % 256] : List Int)))) else (if a0 ≤ 67823 then (some (strOfNums (([249, (IntKind.u64.wrap (Int.tdiv (IntKind.u64.wrap (a0 - 2288)) 256)) % 256, (IntKind.u64.wrap (a0 - 2288)) % 256] : List Int)))) else ((varint_behind.f a0).bind fun t120 => (varint_Put.l0 k a0 t120 (([(wrap64 (247 + t120)) % 256] : List Int)) t120 0))))) = some r := h
 clear h
 by_cases c2 : a0 ≤ 240
 ·rw [if_pos c2] at H
  have c2b0 : decide (a0 ≤ 240) = true := decide_eq_true c2
  clear c2
  obtain ⟨y111, hy111⟩ : ∃ y_ : List Int, y_ = (([(a0) % 256] : List Int)) := ⟨_, rfl⟩
  replace H : (some (strOfNums y111)) = some r := by first | (rw [hy111]; with_reducible exact H) | (have H2_ := (Option.bind_some _ _).symm.trans H; rw [hy111]; with_reducible exact H2_) | (have H2_ := (Option.bind_some _ _).symm.trans H; with_reducible exact H2_) | with_reducible exact H | (rw [hy111]; exact H) | exact H
  have Ny111 := Aside0.mk hy111
  clear hy111
  obtain rfl := Option.some.inj H
  go_enter Tryd.func42, Tryd.ntmps42
  go_wp2_with (first | ((with_reducible refine gate_dst (N := 11) rfl ?_); refine Kd.R_lit (Kd.int .u8) _ 5 ?hg (N := 11) ?hd (xs := ([(a0) % 256] : List Int)) (inner := [.int .u8 ((a0) % 256)]) (ok := fun _ => True) (okp := fun _ => True) ?hr ?hp (fun _ hk => hk) trivial (Below.refl _ _) (Nat.le_refl _) (by simp) ?_; (case hd => rfl); (case hg => rfl); (case hr => first | (go_simp; done) | (go_simp; rfl)); (case hp => exact (Reps.one (show Kd.M (Kd.int .u8) _ _ _ ((a0) % 256) [.int .u8 ((a0) % 256)] from rfl) (Reps.none _ _))); intro v112 w3 ho4 hb hg_ hnew_; clear hg_ hnew_; (first | rw [← Ny111.out] at ho4 | (simp only [Int.reduceToNat] at ho4; rw [← Ny111.out] at ho4)); have n0_ := Aside0.mk (Kd.R_lower ho4 (below_size (by repeat (first | (with_reducible first | exact HB.out | apply below_alloc | apply pw_below_drewN | apply below_drew1) | exact HB.out)))); have n1_ := Aside0.mk (below_step (by repeat (first | (with_reducible first | exact HB.out | apply below_alloc | apply pw_below_drewN | apply below_drew1) | exact HB.out)) hb); clear HB; have HO113 := n0_; have HB := n1_; clear n0_ n1_; clear hb ho4; have hcv5 := own_string (P := Tryd.prog) Tryd.underlying47 Tryd.underlying5 Tryd.underlying9 (Kd.own_of_R HO113.out)))
  go_ret
  exact ⟨by first | rfl | (simp [errW_none, errW_some] <;> rfl) | (simp [*, errW_none, errW_some] <;> rfl), by repeat (first | (with_reducible first | exact HB.out | apply below_alloc | apply pw_below_drewN | apply below_drew1) | exact HB.out)⟩
 ·rw [if_neg c2] at H
  have c2b0 : decide (a0 ≤ 240) = false := decide_eq_false c2
  clear c2
  by_cases c6 : a0 ≤ 2287
  ·rw [if_pos c6] at H
   have c6b0 : decide (a0 ≤ 2287) = true := decide_eq_true c6
   clear c6
   obtain ⟨y114, hy114⟩ : ∃ y_ : List Int, y_ = (([(IntKind.u64.wrap (241 + (IntKind.u64.wrap (Int.tdiv (IntKind.u64.wrap (a0 - 240)) 256)))) % 256, (IntKind.u64.wrap (a0 - 240)) % 256] : List Int)) := ⟨_, rfl⟩
   replace H : (some (strOfNums y114)) = some r := by first | (rw [hy114]; with_reducible exact H) | (have H2_ := (Option.bind_some _ _).symm.trans H; rw [hy114]; with_reducible exact H2_) | (have H2_ := (Option.bind_some _ _).symm.trans H; with_reducible exact H2_) | with_reducible exact H | (rw [hy114]; exact H) | exact H
   have Ny114 := Aside0.mk hy114
   clear hy114
   obtain rfl := Option.some.inj H
   go_enter Tryd.func42, Tryd.ntmps42
   go_wp2_with (first | ((with_reducible refine gate_dst (N := 24) rfl ?_); refine Kd.R_lit (Kd.int .u8) _ 5 ?hg (N := 24) ?hd (xs := ([(IntKind.u64.wrap (241 + (IntKind.u64.wrap (Int.tdiv (IntKind.u64.wrap (a0 - 240)) 256)))) % 256, (IntKind.u64.wrap (a0 - 240)) % 256] : List Int)) (inner := [.int .u8 ((IntKind.u64.wrap (241 + (IntKind.u64.wrap (Int.tdiv (IntKind.u64.wrap (a0 - 240)) 256)))) % 256), .int .u8 ((IntKind.u64.wrap (a0 - 240)) % 256)]) (ok := fun _ => True) (okp := fun _ => True) ?hr ?hp (fun _ hk => hk) trivial (Below.refl _ _) (Nat.le_refl _) (by simp) ?_; (case hd => rfl); (case hg => rfl); (case hr => first | (go_simp; done) | (go_simp; rfl)); (case hp => exact (Reps.one (show Kd.M (Kd.int .u8) _ _ _ ((IntKind.u64.wrap (241 + (IntKind.u64.wrap (Int.tdiv (IntKind.u64.wrap (a0 - 240)) 256)))) % 256) [.int .u8 ((IntKind.u64.wrap (241 + (IntKind.u64.wrap (Int.tdiv (IntKind.u64.wrap (a0 - 240)) 256)))) % 256)] from rfl) (Reps.one (show Kd.M (Kd.int .u8) _ _ _ ((IntKind.u64.wrap (a0 - 240)) % 256) [.int .u8 ((IntKind.u64.wrap (a0 - 240)) % 256)] from rfl) (Reps.none _ _)))); intro v115 w7 ho8 hb hg_ hnew_; clear hg_ hnew_; (first | rw [← Ny114.out] at ho8 | (simp only [Int.reduceToNat] at ho8; rw [← Ny114.out] at ho8)); have n0_ := Aside0.mk (Kd.R_lower ho8 (below_size (by repeat (first | (with_reducible first | exact HB.out | apply below_alloc | apply pw_below_drewN | apply below_drew1) | exact HB.out)))); have n1_ := Aside0.mk (below_step (by repeat (first | (with_reducible first | exact HB.out | apply below_alloc | apply pw_below_drewN | apply below_drew1) | exact HB.out)) hb); clear HB; have HO116 := n0_; have HB := n1_; clear n0_ n1_; clear hb ho8; have hcv9 := own_string (P := Tryd.prog) Tryd.underlying47 Tryd.underlying5 Tryd.underlying9 (Kd.own_of_R HO116.out)))
   go_ret
   exact ⟨by first | rfl | (simp [errW_none, errW_some] <;> rfl) | (simp [*, errW_none, errW_some] <;> rfl), by repeat (first | (with_reducible first | exact HB.out | apply below_alloc | apply pw_below_drewN | apply below_drew1) | exact HB.out)⟩
  ·rw [if_neg c6] at H
   have c6b0 : decide (a0 ≤ 2287) = false := decide_eq_false c6
   clear c6
   by_cases c10 : a0 ≤ 67823
   ·rw [if_pos c10] at H
    have c10b0 : decide (a0 ≤ 67823) = true := decide_eq_true c10
    clear c10
    obtain ⟨y117, hy117⟩ : ∃ y_ : List Int, y_ = (([249, (IntKind.u64.wrap (Int.tdiv (IntKind.u64.wrap (a0 - 2288)) 256)) % 256, (IntKind.u64.wrap (a0 - 2288)) % 256] : List Int)) := ⟨_, rfl⟩
    replace H : (some (strOfNums y117)) = some r := by first | (rw [hy117]; with_reducible exact H) | (have H2_ := (Option.bind_some _ _).symm.trans H; rw [hy117]; with_reducible exact H2_) | (have H2_ := (Option.bind_some _ _).symm.trans H; with_reducible exact H2_) | with_reducible exact H | (rw [hy117]; exact H) | exact H
    have Ny117 := Aside0.mk hy117
    clear hy117
    obtain rfl := Option.some.inj H
    go_enter Tryd.func42, Tryd.ntmps42
    go_wp2_with (first | ((with_reducible refine gate_dst (N := 36) rfl ?_); refine Kd.R_lit (Kd.int .u8) _ 5 ?hg (N := 36) ?hd (xs := ([249, (IntKind.u64.wrap (Int.tdiv (IntKind.u64.wrap (a0 - 2288)) 256)) % 256, (IntKind.u64.wrap (a0 - 2288)) % 256] : List Int)) (inner := [.int .u8 249, .int .u8 ((IntKind.u64.wrap (Int.tdiv (IntKind.u64.wrap (a0 - 2288)) 256)) % 256), .int .u8 ((IntKind.u64.wrap (a0 - 2288)) % 256)]) (ok := fun _ => True) (okp := fun _ => True) ?hr ?hp (fun _ hk => hk) trivial (Below.refl _ _) (Nat.le_refl _) (by simp) ?_; (case hd => rfl); (case hg => rfl); (case hr => first | (go_simp; done) | (go_simp; rfl)); (case hp => exact (Reps.one (show Kd.M (Kd.int .u8) _ _ _ 249 [.int .u8 249] from rfl) (Reps.one (show Kd.M (Kd.int .u8) _ _ _ ((IntKind.u64.wrap (Int.tdiv (IntKind.u64.wrap (a0 - 2288)) 256)) % 256) [.int .u8 ((IntKind.u64.wrap (Int.tdiv (IntKind.u64.wrap (a0 - 2288)) 256)) % 256)] from rfl) (Reps.one (show Kd.M (Kd.int .u8) _ _ _ ((IntKind.u64.wrap (a0 - 2288)) % 256) [.int .u8 ((IntKind.u64.wrap (a0 - 2288)) % 256)] from rfl) (Reps.none _ _))))); intro v118 w11 ho12 hb hg_ hnew_; clear hg_ hnew_; (first | rw [← Ny117.out] at ho12 | (simp only [Int.reduceToNat] at ho12; rw [← Ny117.out] at ho12)); have n0_ := Aside0.mk (Kd.R_lower ho12 (below_size (by repeat (first | (with_reducible first | exact HB.out | apply below_alloc | apply pw_below_drewN | apply below_drew1) | exact HB.out)))); have n1_ := Aside0.mk (below_step (by repeat (first | (with_reducible first | exact HB.out | apply below_alloc | apply pw_below_drewN | apply below_drew1) | exact HB.out)) hb); clear HB; have HO119 := n0_; have HB := n1_; clear n0_ n1_; clear hb ho12; have hcv13 := own_string (P := Tryd.prog) Tryd.underlying47 Tryd.underlying5 Tryd.underlying9 (Kd.own_of_R HO119.out)))
    go_ret
    exact ⟨by first | rfl | (simp [errW_none, errW_some] <;> rfl) | (simp [*, errW_none, errW_some] <;> rfl), by repeat (first | (with_reducible first | exact HB.out | apply below_alloc | apply pw_below_drewN | apply below_drew1) | exact HB.out)⟩
   ·rw [if_neg c10] at H
    have c10b0 : decide (a0 ≤ 67823) = false := decide_eq_false c10
    clear c10
    replace H := Option.bind_eq_some_iff.mp H
    obtain ⟨t120, A140, H⟩ := H
    replace H : (varint_Put.l0 k a0 t120 (([(wrap64 (247 + t120)) % 256] : List Int)) t120 0) = some r := H
    have A14 := Aside0.mk A140
    clear A140
    obtain ⟨y121, hy121⟩ : ∃ y_ : List Int, y_ = (([(wrap64 (247 + t120)) % 256] : List Int)) := ⟨_, rfl⟩
    replace H : (varint_Put.l0 k a0 t120 y121 t120 0) = some r := by first | (rw [hy121]; with_reducible exact H) | (have H2_ := (Option.bind_some _ _).symm.trans H; rw [hy121]; with_reducible exact H2_) | (have H2_ := (Option.bind_some _ _).symm.trans H; with_reducible exact H2_) | with_reducible exact H | (rw [hy121]; exact H) | exact H
    have Ny121 := Aside0.mk hy121
    clear hy121
    have H' := Aside0.mk H
    clear H
    go_enter Tryd.func42, Tryd.ntmps42
    go_wp2_with (first | ((with_reducible refine gate_callee (f := 63) rfl ?_); refine goesL_ (some 39) rfl rfl Tryd.func63 (by kernel_rfl) rfl #[.int .u64 a0] rfl (by (try simp only [List.map_toArray, List.map_cons, List.map_nil]); first | done | rfl | (simp only [List.length_drop, List.length_take]; rfl)) ?_; (with_reducible refine (varint_behind.calls a0 t120 _ A14.out).mono ?_); rintro e w15 ⟨rfl, hb⟩; refine ⟨_, rfl, ?_⟩; have n0_ := Aside0.mk (below_step (by repeat (first | (with_reducible first | exact HB.out | apply below_alloc | apply pw_below_drewN | apply below_drew1) | exact HB.out)) hb); clear HB; have HB := n0_; clear n0_; (try clear hb); (try clear hb2); (try clear hk); (try clear hi)) | ((with_reducible refine gate_dst (N := 43) rfl ?_); refine Kd.R_lit (Kd.int .u8) _ 5 ?hg (N := 43) ?hd (xs := ([(wrap64 (247 + t120)) % 256] : List Int)) (inner := [.int .u8 ((wrap64 (247 + t120)) % 256)]) (ok := fun _ => True) (okp := fun _ => True) ?hr ?hp (fun _ hk => hk) trivial (Below.refl _ _) (Nat.le_refl _) (by simp) ?_; (case hd => rfl); (case hg => rfl); (case hr => first | (go_simp; done) | (go_simp; rfl)); (case hp => exact (Reps.one (show Kd.M (Kd.int .u8) _ _ _ ((wrap64 (247 + t120)) % 256) [.int .u8 ((wrap64 (247 + t120)) % 256)] from rfl) (Reps.none _ _))); intro v122 w16 ho17 hb hg_ hnew_; clear hg_ hnew_; (first | rw [← Ny121.out] at ho17 | (simp only [Int.reduceToNat] at ho17; rw [← Ny121.out] at ho17)); have n0_ := Aside0.mk (Kd.R_lower ho17 (below_size (by repeat (first | (with_reducible first | exact HB.out | apply below_alloc | apply pw_below_drewN | apply below_drew1) | exact HB.out)))); have n1_ := Aside0.mk (below_step (by repeat (first | (with_reducible first | exact HB.out | apply below_alloc | apply pw_below_drewN | apply below_drew1) | exact HB.out)) hb); clear HB; have HO123 := n0_; have HB := n1_; clear n0_ n1_; clear hb ho17))
    go_loopg [4, 45] k (fun kq v4 v45 w' => ∃ (x4_1 : List Int) (x45_1 : Int), v45 = .int .i64 x45_1 ∧ Aside0 (varint_Put.l0 kq a0 t120 x4_1 t120 x45_1 = some r) ∧ Aside0 (kq ≤ k) ∧ Aside0 (Kd.R (Kd.int .u8) 5 w' w.heap.size (fun _ => True) v4 x4_1) ∧ Aside0 (Below w.heap.size w w'))
    case atStart => exact ⟨(y121), (0), (by first | rfl | (simp; done) | (simp [*]; done)), H', ⟨Nat.le_refl _⟩, ⟨by (with_reducible repeat (first | apply Kd.R_alloc | apply Kd.R_drewN | apply Kd.R_drew)); exact HO123.out⟩, ⟨by repeat (first | (with_reducible first | exact HB.out | apply below_alloc | apply pw_below_drewN | apply below_drew1) | exact HB.out)⟩⟩
    case round =>
     clear H'
     try clear c1
     try clear hcv1
     try clear c2
     try clear c2b0
     try clear p2
     try clear c4
     try clear hcv5
     try clear c6
     try clear c6b0
     try clear p6
     try clear hcv9
     try clear c10
     try clear c10b0
     try clear hcv13
     obtain ⟨x4_1, x45_1, rfl, HA, HK1, HO_4, HB⟩ := hrel
     cases gk with
     | zero => exact absurd HA.out (by simp [varint_Put.l0])
     | succ k1 =>
      have H := HA.out
      clear HA
      simp only [varint_Put.l0] at H
      by_cases c18 : x45_1 < t120
      ·rw [if_pos c18] at H
       have c18b0 : decide (x45_1 < t120) = true := decide_eq_true c18
       clear c18
       obtain ⟨ji19, hji19⟩ : ∃ j_ : Int, (wrap64 (8 * (wrap64 ((wrap64 (t120 - 1)) - x45_1)))) = j_ := ⟨_, rfl⟩
       replace H : (if 0 ≤ (ji19) then (if x4_1.length < 140737488355328 then (varint_Put.l0 k1 a0 t120 (x4_1 ++ [(shr .u64 a0 (ji19)) % 256]) t120 (wrap64 (x45_1 + 1))) else (none)) else (none)) = some r := by first | (rw [hji19] at H; exact H) | (simp only [hji19] at H ⊢; exact H)
       have hji19w : (IntKind.i64.wrap (8 * (wrap64 ((wrap64 (t120 - 1)) - x45_1)))) = ji19 := (i64_w _).trans hji19
       by_cases c20 : 0 ≤ (ji19)
       ·rw [if_pos c20] at H
        have c20b0 := eq_true c20
        have c20b1 : decide (0 ≤ (ji19)) = true := decide_eq_true c20
        clear c20
        obtain ⟨ji21, hji21⟩ : ∃ j_ : Int, (shr .u64 a0 (ji19)) = j_ := ⟨_, rfl⟩
        replace H : (if x4_1.length < 140737488355328 then (varint_Put.l0 k1 a0 t120 (x4_1 ++ [(ji21) % 256]) t120 (wrap64 (x45_1 + 1))) else (none)) = some r := by first | (rw [hji21] at H; exact H) | (simp only [hji21] at H ⊢; exact H)
        have hji21_ : (a0 / 2 ^ min (ji19).toNat 64) = ji21 := hji21
        have hji21z : (ji19) ≤ 64 → (a0 / 2 ^ (ji19).toNat) = ji21 := shr_small hji21
        by_cases c22 : x4_1.length < 140737488355328
        ·rw [if_pos c22] at H
         have LMc22 := Aside0.mk c22
         clear c22
         obtain ⟨y124, hy124⟩ : ∃ y_ : List Int, y_ = (x4_1 ++ [(ji21) % 256]) := ⟨_, rfl⟩
         replace H : (varint_Put.l0 k1 a0 t120 y124 t120 (wrap64 (x45_1 + 1))) = some r := by first | (rw [hy124]; with_reducible exact H) | (have H2_ := (Option.bind_some _ _).symm.trans H; rw [hy124]; with_reducible exact H2_) | (have H2_ := (Option.bind_some _ _).symm.trans H; with_reducible exact H2_) | with_reducible exact H | (rw [hy124]; exact H) | exact H
         have Ny124 := Aside0.mk hy124
         clear hy124
         have H' := Aside0.mk H
         clear H
         go_wp2_with (first | ((with_reducible refine gate_builtin (b := .append) (xs := #[.tmp 48, .tmp 57]) rfl ?_); at_builtin; refine Kd.R_append (Kd.int .u8) (w0 := w) w.heap.size rfl (.tmp 48) (.tmp 57) 47 5 (.int .u8 0) 1 rfl Tryd.underlying47 info5 rfl (by decide) (by omega) u4 x4_1 ((ji21) % 256) [.int .u8 ((ji21) % 256)] (fun _ => True) (fun _ => False) rfl rfl ?aP (fun _ hk => hk.elim) ?aF ?aO ?aB ?aS ?aL ?_; (case aP => exact rfl); (case aB => exact (by repeat (first | (with_reducible first | exact HB.out | apply below_alloc | apply pw_below_drewN | apply below_drew1) | exact HB.out))); (case aF => exact (fun _ _ => trivial)); (case aO => exact (by (with_reducible repeat (first | apply Kd.R_alloc | apply Kd.R_drewN | apply Kd.R_drew)); exact HO_4.out)); (case aS => exact (below_size (by repeat (first | (with_reducible first | exact HB.out | apply below_alloc | apply pw_below_drewN | apply below_drew1) | exact HB.out)))); (case aL => have := LMc22.out; omega); intro v125 w23 ho hb hg hat; rw [← Ny124.out] at ho; have n0_ := Aside0.mk (hb); have n1_ := Aside0.mk (ho); clear HB; clear HO_4; have HB := n0_; have HO126 := n1_; clear n0_ n1_; clear ho hb hg hat))
         go_roundg k1
         case measure => have := HK1.out; omega
         case rel => exact ⟨(y124), (wrap64 (x45_1 + 1)), (by first | rfl | (simp; done) | (simp [*]; done)), H', ⟨by have := HK1.out; omega⟩, ⟨by (with_reducible repeat (first | apply Kd.R_alloc | apply Kd.R_drewN | apply Kd.R_drew)); exact HO126.out⟩, ⟨by repeat (first | (with_reducible first | exact HB.out | apply below_alloc | apply pw_below_drewN | apply below_drew1) | exact HB.out)⟩⟩
        ·rw [if_neg c22] at H
         exact absurd H (by simp)
       ·rw [if_neg c20] at H
        exact absurd H (by simp)
      ·rw [if_neg c18] at H
       have c18b0 : decide (x45_1 < t120) = false := decide_eq_false c18
       clear c18
       obtain rfl := Option.some.inj H
       have hcv24 := own_string (P := Tryd.prog) Tryd.underlying47 Tryd.underlying5 Tryd.underlying9 (Kd.own_of_R HO_4.out)
       go_wp2
       go_ret
       exact ⟨by first | rfl | (simp [errW_none, errW_some] <;> rfl) | (simp [*, errW_none, errW_some] <;> rfl), by repeat (first | (with_reducible first | exact HB.out | apply below_alloc | apply pw_below_drewN | apply below_drew1) | exact HB.out)⟩
end Go.Proofs.YtjjimkmbbifbjaaDoor.Pv
end
section
namespace Go.Proofs.YtjjimkmbbifbjaaDoor.Pv
open Go.RowKit Go.Proofs.YtjjimkmbbifbjaaDoorW.PrintWords Go.Proofs.YtjjimkmbbifbjaaDoorW.PrintLast Go.Proofs.YtjjimkmbbifbjaaDoorW.PrintMore
attribute [local go_sem] max2_int min2_int max_two min_two max_three min_three max_four min_four
set_option linter.unusedVariables false
set_option linter.unusedSimpArgs false
def varint_want.f (a0 : Int) : Option (Int) := if a0 ≤ 240 then (some 1) else (if a0 < 249 then (some 2) else (if a0 = 249 then (some 3) else (some (wrap64 ((wrap64 (1 + (wrap64 (a0)))) - 247)))))
set_option maxHeartbeats 8000000 in
set_option maxRecDepth 100000 in
theorem varint_want.calls (a0 : Int) (r : Int) (w : World) (h : varint_want.f a0 = some r) :
  Calls Tryd.prog 74 #[.int .u8 a0] w fun e w' => e = .returned (.int .i64 r) ∧ Drawn0 w w' := by
 have H : (if a0 ≤ 240 then (some 1) else (if a0 < 249 then (some 2) else (if a0 = 249 then (some 3) else (some (wrap64 ((wrap64 (1 + (wrap64 (a0)))) - 247)))))) = some r := h
 clear h
 by_cases c2 : a0 ≤ 240
 ·rw [if_pos c2] at H
  have c2b0 : decide (a0 ≤ 240) = true := decide_eq_true c2
  clear c2
  obtain rfl := Option.some.inj H
  go_enter Tryd.func74, Tryd.ntmps74
  go_wp2
  go_ret
  exact ⟨by first | rfl | (simp; done) | (simp [*]; done), by repeat (first | exact Drawn0.refl _ | apply Drawn0.step)⟩
 ·rw [if_neg c2] at H
  have c2b0 : decide (a0 ≤ 240) = false := decide_eq_false c2
  clear c2
  by_cases c3 : a0 < 249
  ·rw [if_pos c3] at H
   have c3b0 : decide (a0 < 249) = true := decide_eq_true c3
   clear c3
   obtain rfl := Option.some.inj H
   go_enter Tryd.func74, Tryd.ntmps74
   go_wp2
   go_ret
   exact ⟨by first | rfl | (simp; done) | (simp [*]; done), by repeat (first | exact Drawn0.refl _ | apply Drawn0.step)⟩
  ·rw [if_neg c3] at H
   have c3b0 : decide (a0 < 249) = false := decide_eq_false c3
   clear c3
   by_cases c4 : a0 = 249
   ·rw [if_pos c4] at H
    have c4b0 : (a0 == 249) = true := beq_iff_eq.mpr c4
    have c4b1 : (a0 != 249) = false := bne_eq_false_iff_eq.mpr c4
    clear c4
    obtain rfl := Option.some.inj H
    go_enter Tryd.func74, Tryd.ntmps74
    go_wp2
    go_ret
    exact ⟨by first | rfl | (simp; done) | (simp [*]; done), by repeat (first | exact Drawn0.refl _ | apply Drawn0.step)⟩
   ·rw [if_neg c4] at H
    have c4b0 : (a0 == 249) = false := beq_eq_false_iff_ne.mpr c4
    have c4b1 : (a0 != 249) = true := bne_iff_ne.mpr c4
    obtain rfl := Option.some.inj H
    go_enter Tryd.func74, Tryd.ntmps74
    go_wp2
    go_ret
    exact ⟨by first | rfl | (simp; done) | (simp [*]; done), by repeat (first | exact Drawn0.refl _ | apply Drawn0.step)⟩
def varint_Size.f (a0 : Int) : Option (Int) := if a0 ≤ 240 then (some 1) else (if a0 ≤ 2287 then (some 2) else (if a0 ≤ 67823 then (some 3) else ((varint_behind.f a0).bind fun t101 => (some (wrap64 (1 + t101))))))
set_option maxHeartbeats 8000000 in
set_option maxRecDepth 100000 in
theorem varint_Size.calls (a0 : Int) (r : Int) (w : World) (h : varint_Size.f a0 = some r) :
  Calls Tryd.prog 75 #[.int .u64 a0] w fun e w' => e = .returned (.int .i64 r) ∧ Below w.heap.size w w' := by
 have HB := Aside0.mk (Below.refl w.heap.size w)
 have H : (if a0 ≤ 240 then (some 1) else (if a0 ≤ 2287 then (some 2) else (if a0 ≤ 67823 then (some 3) else ((varint_behind.f a0).bind fun t101 => (some (wrap64 (1 + t101))))))) = some r := h
 clear h
 by_cases c2 : a0 ≤ 240
 ·rw [if_pos c2] at H
  have c2b0 : decide (a0 ≤ 240) = true := decide_eq_true c2
  clear c2
  obtain rfl := Option.some.inj H
  go_enter Tryd.func75, Tryd.ntmps75
  go_wp2
  go_ret
  exact ⟨by first | rfl | (simp [errW_none, errW_some] <;> rfl) | (simp [*, errW_none, errW_some] <;> rfl), by repeat (first | (with_reducible first | exact HB.out | apply below_alloc | apply pw_below_drewN | apply below_drew1) | exact HB.out)⟩
 ·rw [if_neg c2] at H
  have c2b0 : decide (a0 ≤ 240) = false := decide_eq_false c2
  clear c2
  by_cases c3 : a0 ≤ 2287
  ·rw [if_pos c3] at H
   have c3b0 : decide (a0 ≤ 2287) = true := decide_eq_true c3
   clear c3
   obtain rfl := Option.some.inj H
   go_enter Tryd.func75, Tryd.ntmps75
   go_wp2
   go_ret
   exact ⟨by first | rfl | (simp [errW_none, errW_some] <;> rfl) | (simp [*, errW_none, errW_some] <;> rfl), by repeat (first | (with_reducible first | exact HB.out | apply below_alloc | apply pw_below_drewN | apply below_drew1) | exact HB.out)⟩
  ·rw [if_neg c3] at H
   have c3b0 : decide (a0 ≤ 2287) = false := decide_eq_false c3
   clear c3
   by_cases c4 : a0 ≤ 67823
   ·rw [if_pos c4] at H
    have c4b0 : decide (a0 ≤ 67823) = true := decide_eq_true c4
    clear c4
    obtain rfl := Option.some.inj H
    go_enter Tryd.func75, Tryd.ntmps75
    go_wp2
    go_ret
    exact ⟨by first | rfl | (simp [errW_none, errW_some] <;> rfl) | (simp [*, errW_none, errW_some] <;> rfl), by repeat (first | (with_reducible first | exact HB.out | apply below_alloc | apply pw_below_drewN | apply below_drew1) | exact HB.out)⟩
   ·rw [if_neg c4] at H
    have c4b0 : decide (a0 ≤ 67823) = false := decide_eq_false c4
    clear c4
    replace H := Option.bind_eq_some_iff.mp H
    obtain ⟨t101, A50, H⟩ := H
    replace H : (some (wrap64 (1 + t101))) = some r := H
    have A5 := Aside0.mk A50
    clear A50
    obtain rfl := Option.some.inj H
    go_enter Tryd.func75, Tryd.ntmps75
    go_wp2_with (first | ((with_reducible refine gate_callee (f := 63) rfl ?_); refine goesL_ (some 13) rfl rfl Tryd.func63 (by kernel_rfl) rfl #[.int .u64 a0] rfl (by (try simp only [List.map_toArray, List.map_cons, List.map_nil]); first | done | rfl | (simp only [List.length_drop, List.length_take]; rfl)) ?_; (with_reducible refine (varint_behind.calls a0 t101 _ A5.out).mono ?_); rintro e w6 ⟨rfl, hb⟩; refine ⟨_, rfl, ?_⟩; have n0_ := Aside0.mk (below_step (by repeat (first | (with_reducible first | exact HB.out | apply below_alloc | apply pw_below_drewN | apply below_drew1) | exact HB.out)) hb); clear HB; have HB := n0_; clear n0_; (try clear hb); (try clear hb2); (try clear hk); (try clear hi)))
    go_ret
    exact ⟨by first | rfl | (simp [errW_none, errW_some] <;> rfl) | (simp [*, errW_none, errW_some] <;> rfl), by repeat (first | (with_reducible first | exact HB.out | apply below_alloc | apply pw_below_drewN | apply below_drew1) | exact HB.out)⟩
mutual
def varint_Get.j0 : Nat → ByteArray → Int → Bool → Option (Int × Int × Int)
 | 0, _, _, _ => none
 | k + 1, x0, x1, x11 => if x11 = true then (some (0, 0, 1)) else (if x1 = (x0.size : Int) then (some (0, 0, 3)) else (if 0 ≤ x1 then (if x1 < (x0.size : Int) then ((varint_want.f (bt x0 x1)).bind fun t102 => (if (wrap64 ((x0.size : Int) - x1)) < t102 then (some (0, 0, 3)) else ((varint_want.f (bt x0 x1)).bind fun t103 => (varint_Get.l0 k x0 x1 (bt x0 x1) t103 0 (wrap64 (t103 - 1)) 0)))) else (none)) else (none)))
def varint_Get.l0 : Nat → ByteArray → Int → Int → Int → Int → Int → Int → Option (Int × Int × Int)
 | 0, _, _, _, _, _, _, _ => none
 | k + 1, x0, x1, x7, x8, x9, x44, x45 => if x45 < x44 then (if 0 ≤ (wrap64 ((wrap64 (x1 + 1)) + x45)) then (if (wrap64 ((wrap64 (x1 + 1)) + x45)) < (x0.size : Int) then (varint_Get.l0 k x0 x1 x7 x8 (Go.bits .or .u64 (IntKind.u64.wrap (x9 * 256)) (IntKind.u64.wrap (bt x0 (wrap64 ((wrap64 (x1 + 1)) + x45))))) x44 (wrap64 (x45 + 1))) else (none)) else (none)) else (if x7 ≤ 240 then ((varint_Size.f (IntKind.u64.wrap (x7))).bind fun t104 => (if t104 = x8 then (some (IntKind.u64.wrap (x7), wrap64 (x1 + x8), 0)) else (some (0, 0, 4)))) else (if x7 < 249 then ((varint_Size.f (IntKind.u64.wrap (x9 + (240 + (256 * ((x7 - 241) % 256)))))).bind fun t105 => (if t105 = x8 then (some (IntKind.u64.wrap (x9 + (240 + (256 * ((x7 - 241) % 256)))), wrap64 (x1 + x8), 0)) else (some (0, 0, 4)))) else (if x7 = 249 then ((varint_Size.f (IntKind.u64.wrap (x9 + 2288))).bind fun t106 => (if t106 = x8 then (some (IntKind.u64.wrap (x9 + 2288), wrap64 (x1 + x8), 0)) else (some (0, 0, 4)))) else ((varint_Size.f x9).bind fun t107 => (if t107 = x8 then (some (x9, wrap64 (x1 + x8), 0)) else (some (0, 0, 4)))))))
end
def varint_Get.f (k : Nat) (a0 : ByteArray) (a1 : Int) : Option (Int × Int × Int) := if a1 < 0 then (varint_Get.j0 k a0 a1 true) else (varint_Get.j0 k a0 a1 (decide (a1 > (a0.size : Int))))
set_option maxHeartbeats 8000000 in
set_option maxRecDepth 100000 in
theorem varint_Get.calls (k : Nat) (a0 : ByteArray) (a1 : Int) (r1 : Int) (r2 : Int) (r3 : Int) (w : World) (h : varint_Get.f k a0 a1 = some (r1, r2, r3)) :
  Calls Tryd.prog 66 #[.string a0, .int .i64 a1] w fun e w' => e = .returned (.tuple #[.int .u64 r1, .int .i64 r2, .int .i64 r3]) ∧ Below w.heap.size w w' := by
 have HB := Aside0.mk (Below.refl w.heap.size w)
 have H : (if a1 < 0 then (varint_Get.j0 k a0 a1 true) else (varint_Get.j0 k a0 a1 (decide (a1 > (a0.size : Int))))) = some (r1, r2, r3) := h
 clear h
 have HC3 := Aside0.mk H
 clear H
 go_enter Tryd.func66, Tryd.ntmps66
 go_upto_region 1 with (fail)
 repeat (go_quiet (fail); go_upto_region 1 with (fail))
 go_cut [11] (fun v11 wc => ∃ (kq : Nat) (x11_2 : Bool), v11 = .bool x11_2 ∧ Aside0 (varint_Get.j0 kq a0 a1 x11_2 = some (r1, r2, r3)) ∧ Aside0 (kq ≤ k) ∧ Aside0 (Below w.heap.size w wc))
 case first =>
  have H := HC3.out
  clear HC3
  by_cases c4 : a1 < 0
  ·rw [if_pos c4] at H
   have c4b0 : decide (a1 < 0) = true := decide_eq_true c4
   clear c4
   (first | rw [c4b0] | (simp only [i64_w, i32_w]; rw [c4b0]) | skip)
   have H' := Aside0.mk H
   clear H
   go_wp2
   repeat (go_quiet (fail); try go_wp2)
   go_meet
   case rel => exact ⟨_, (true), (by first | rfl | (simp; done) | (simp [*]; done)), H', ⟨by first | omega | exact Nat.le_refl _⟩, ⟨by repeat (first | (with_reducible first | exact HB.out | apply below_alloc | apply pw_below_drewN | apply below_drew1) | exact HB.out)⟩⟩
  ·rw [if_neg c4] at H
   have c4b0 : decide (a1 < 0) = false := decide_eq_false c4
   clear c4
   (first | rw [c4b0] | (simp only [i64_w, i32_w]; rw [c4b0]) | skip)
   have H' := Aside0.mk H
   clear H
   go_wp2
   repeat (go_quiet (fail); try go_wp2)
   go_meet
   case rel => exact ⟨_, (decide (a1 > (a0.size : Int))), (by first | rfl | (simp; done) | (simp [*]; done)), H', ⟨by first | omega | exact Nat.le_refl _⟩, ⟨by repeat (first | (with_reducible first | exact HB.out | apply below_alloc | apply pw_below_drewN | apply below_drew1) | exact HB.out)⟩⟩
 case rest =>
  clear HC3
  try clear p2
  try clear c4
  try clear c4b0
  obtain ⟨kq, x11_2, rfl, HA, HJ2, HB⟩ := hcut
  cases kq with
  | zero => exact absurd HA.out (by simp [varint_Get.j0])
  | succ kj2 =>
   have H := HA.out
   clear HA
   simp only [varint_Get.j0] at H
   by_cases c5 : x11_2 = true
   ·subst c5
    have H1 : (some (0, 0, 1)) = some (r1, r2, r3) := by rw [if_pos rfl] at H; exact H
    clear H
    have H := H1
    clear H1
    simp only [Option.some.injEq, Prod.mk.injEq] at H
    obtain ⟨rfl, rfl, rfl⟩ := H
    go_wp2
    repeat (go_quiet (fail); try go_wp2)
    go_ret3
    exact ⟨by first | rfl | (simp [errW_none, errW_some] <;> rfl) | (simp [*, errW_none, errW_some] <;> rfl), by repeat (first | (with_reducible first | exact HB.out | apply below_alloc | apply pw_below_drewN | apply below_drew1) | exact HB.out)⟩
   ·replace c5 := Bool.eq_false_iff.mpr c5
    subst c5
    have H1 : (if a1 = (a0.size : Int) then (some (0, 0, 3)) else (if 0 ≤ a1 then (if a1 < (a0.size : Int) then ((varint_want.f (bt a0 a1)).bind fun t102 => (if (wrap64 ((a0.size : Int) - a1)) < t102 then (some (0, 0, 3)) else ((varint_want.f (bt a0 a1)).bind fun t103 => (varint_Get.l0 kj2 a0 a1 (bt a0 a1) t103 0 (wrap64 (t103 - 1)) 0)))) else (none)) else (none))) = some (r1, r2, r3) := by rw [if_neg (show ¬ (false = true) by decide)] at H; exact H
    clear H
    have H := H1
    clear H1
    by_cases c6 : a1 = (a0.size : Int)
    ·rw [if_pos c6] at H
     have c6b0 : (a1 == (a0.size : Int)) = true := beq_iff_eq.mpr c6
     have c6b1 : (a1 != (a0.size : Int)) = false := bne_eq_false_iff_eq.mpr c6
     clear c6
     simp only [Option.some.injEq, Prod.mk.injEq] at H
     obtain ⟨rfl, rfl, rfl⟩ := H
     go_wp2
     repeat (go_quiet (fail); try go_wp2)
     go_ret3
     exact ⟨by first | rfl | (simp [errW_none, errW_some] <;> rfl) | (simp [*, errW_none, errW_some] <;> rfl), by repeat (first | (with_reducible first | exact HB.out | apply below_alloc | apply pw_below_drewN | apply below_drew1) | exact HB.out)⟩
    ·rw [if_neg c6] at H
     have c6b0 : (a1 == (a0.size : Int)) = false := beq_eq_false_iff_ne.mpr c6
     have c6b1 : (a1 != (a0.size : Int)) = true := bne_iff_ne.mpr c6
     by_cases c7 : 0 ≤ a1
     ·rw [if_pos c7] at H
      have c7b0 : decide (0 ≤ a1) = true := decide_eq_true c7
      clear c7
      by_cases c8 : a1 < (a0.size : Int)
      ·rw [if_pos c8] at H
       have c8b0 : decide (a1 < (a0.size : Int)) = true := decide_eq_true c8
       clear c8
       replace H := Option.bind_eq_some_iff.mp H
       obtain ⟨t102, A100, H⟩ := H
       replace H : (if (wrap64 ((a0.size : Int) - a1)) < t102 then (some (0, 0, 3)) else ((varint_want.f (bt a0 a1)).bind fun t103 => (varint_Get.l0 kj2 a0 a1 (bt a0 a1) t103 0 (wrap64 (t103 - 1)) 0))) = some (r1, r2, r3) := H
       have A10 := Aside0.mk A100
       clear A100
       by_cases c11 : (wrap64 ((a0.size : Int) - a1)) < t102
       ·rw [if_pos c11] at H
        have c11b0 : decide ((wrap64 ((a0.size : Int) - a1)) < t102) = true := decide_eq_true c11
        clear c11
        simp only [Option.some.injEq, Prod.mk.injEq] at H
        obtain ⟨rfl, rfl, rfl⟩ := H
        have p9 : 0 ≤ (a1 : Int) := of_decide_eq_true (by first | (with_reducible assumption) | assumption)
        have q9 : a1 < (a0.size : Int) := of_decide_eq_true (by first | (with_reducible assumption) | assumption)
        have hx9 := bt_at a0 a1
        replace p9 := eq_true p9
        replace q9 := eq_true q9
        go_wp2_with (first | (go_at_call 74; (with_reducible refine (varint_want.calls (bt a0 a1) t102 _ A10.out).mono ?_); rintro e w' ⟨rfl, ⟨nd, rfl⟩⟩; (try first | exact ⟨rfl, _, World.drewN_drewN _ _ _⟩ | exact ⟨rfl, _, Eq.trans (World.drewN_drewN _ _ _) (congrArg (World.drewN _) (Nat.add_assoc _ _ _))⟩)))
        repeat (go_quiet (first | (go_at_call 74; (with_reducible refine (varint_want.calls (bt a0 a1) t102 _ A10.out).mono ?_); rintro e w' ⟨rfl, ⟨nd, rfl⟩⟩; (try first | exact ⟨rfl, _, World.drewN_drewN _ _ _⟩ | exact ⟨rfl, _, Eq.trans (World.drewN_drewN _ _ _) (congrArg (World.drewN _) (Nat.add_assoc _ _ _))⟩))); try go_wp2_with (first | (go_at_call 74; (with_reducible refine (varint_want.calls (bt a0 a1) t102 _ A10.out).mono ?_); rintro e w' ⟨rfl, ⟨nd, rfl⟩⟩; (try first | exact ⟨rfl, _, World.drewN_drewN _ _ _⟩ | exact ⟨rfl, _, Eq.trans (World.drewN_drewN _ _ _) (congrArg (World.drewN _) (Nat.add_assoc _ _ _))⟩))))
        go_ret3
        exact ⟨by first | rfl | (simp [errW_none, errW_some] <;> rfl) | (simp [*, errW_none, errW_some] <;> rfl), by repeat (first | (with_reducible first | exact HB.out | apply below_alloc | apply pw_below_drewN | apply below_drew1) | exact HB.out)⟩
       ·rw [if_neg c11] at H
        have c11b0 : decide ((wrap64 ((a0.size : Int) - a1)) < t102) = false := decide_eq_false c11
        clear c11
        replace H := Option.bind_eq_some_iff.mp H
        obtain ⟨t103, A140, H⟩ := H
        replace H : (varint_Get.l0 kj2 a0 a1 (bt a0 a1) t103 0 (wrap64 (t103 - 1)) 0) = some (r1, r2, r3) := H
        have A14 := Aside0.mk A140
        clear A140
        have H' := Aside0.mk H
        clear H
        have p9 : 0 ≤ (a1 : Int) := of_decide_eq_true (by first | (with_reducible assumption) | assumption)
        have q9 : a1 < (a0.size : Int) := of_decide_eq_true (by first | (with_reducible assumption) | assumption)
        have hx9 := bt_at a0 a1
        replace p9 := eq_true p9
        replace q9 := eq_true q9
        go_wp2_with (first | (go_at_call 74; (with_reducible refine (varint_want.calls (bt a0 a1) t102 _ A10.out).mono ?_); rintro e w' ⟨rfl, ⟨nd, rfl⟩⟩; (try first | exact ⟨rfl, _, World.drewN_drewN _ _ _⟩ | exact ⟨rfl, _, Eq.trans (World.drewN_drewN _ _ _) (congrArg (World.drewN _) (Nat.add_assoc _ _ _))⟩); have p12 : 0 ≤ (a1 : Int) := of_decide_eq_true (by first | (with_reducible assumption) | assumption); have q12 : a1 < (a0.size : Int) := of_decide_eq_true (by first | (with_reducible assumption) | assumption); have hx12 := bt_at a0 a1; replace p12 := eq_true p12; replace q12 := eq_true q12; have p13 : 0 ≤ (a1 : Int) := of_decide_eq_true (by first | (with_reducible assumption) | assumption); have q13 : a1 < (a0.size : Int) := of_decide_eq_true (by first | (with_reducible assumption) | assumption); have hx13 := bt_at a0 a1; replace p13 := eq_true p13; replace q13 := eq_true q13) | (go_at_call 74; (with_reducible refine (varint_want.calls (bt a0 a1) t103 _ A14.out).mono ?_); rintro e w' ⟨rfl, ⟨nd, rfl⟩⟩; (try first | exact ⟨rfl, _, World.drewN_drewN _ _ _⟩ | exact ⟨rfl, _, Eq.trans (World.drewN_drewN _ _ _) (congrArg (World.drewN _) (Nat.add_assoc _ _ _))⟩)))
        repeat (go_quiet (first | (go_at_call 74; (with_reducible refine (varint_want.calls (bt a0 a1) t102 _ A10.out).mono ?_); rintro e w' ⟨rfl, ⟨nd, rfl⟩⟩; (try first | exact ⟨rfl, _, World.drewN_drewN _ _ _⟩ | exact ⟨rfl, _, Eq.trans (World.drewN_drewN _ _ _) (congrArg (World.drewN _) (Nat.add_assoc _ _ _))⟩); have p12 : 0 ≤ (a1 : Int) := of_decide_eq_true (by first | (with_reducible assumption) | assumption); have q12 : a1 < (a0.size : Int) := of_decide_eq_true (by first | (with_reducible assumption) | assumption); have hx12 := bt_at a0 a1; replace p12 := eq_true p12; replace q12 := eq_true q12; have p13 : 0 ≤ (a1 : Int) := of_decide_eq_true (by first | (with_reducible assumption) | assumption); have q13 : a1 < (a0.size : Int) := of_decide_eq_true (by first | (with_reducible assumption) | assumption); have hx13 := bt_at a0 a1; replace p13 := eq_true p13; replace q13 := eq_true q13) | (go_at_call 74; (with_reducible refine (varint_want.calls (bt a0 a1) t103 _ A14.out).mono ?_); rintro e w' ⟨rfl, ⟨nd, rfl⟩⟩; (try first | exact ⟨rfl, _, World.drewN_drewN _ _ _⟩ | exact ⟨rfl, _, Eq.trans (World.drewN_drewN _ _ _) (congrArg (World.drewN _) (Nat.add_assoc _ _ _))⟩))); try go_wp2_with (first | (go_at_call 74; (with_reducible refine (varint_want.calls (bt a0 a1) t102 _ A10.out).mono ?_); rintro e w' ⟨rfl, ⟨nd, rfl⟩⟩; (try first | exact ⟨rfl, _, World.drewN_drewN _ _ _⟩ | exact ⟨rfl, _, Eq.trans (World.drewN_drewN _ _ _) (congrArg (World.drewN _) (Nat.add_assoc _ _ _))⟩); have p12 : 0 ≤ (a1 : Int) := of_decide_eq_true (by first | (with_reducible assumption) | assumption); have q12 : a1 < (a0.size : Int) := of_decide_eq_true (by first | (with_reducible assumption) | assumption); have hx12 := bt_at a0 a1; replace p12 := eq_true p12; replace q12 := eq_true q12; have p13 : 0 ≤ (a1 : Int) := of_decide_eq_true (by first | (with_reducible assumption) | assumption); have q13 : a1 < (a0.size : Int) := of_decide_eq_true (by first | (with_reducible assumption) | assumption); have hx13 := bt_at a0 a1; replace p13 := eq_true p13; replace q13 := eq_true q13) | (go_at_call 74; (with_reducible refine (varint_want.calls (bt a0 a1) t103 _ A14.out).mono ?_); rintro e w' ⟨rfl, ⟨nd, rfl⟩⟩; (try first | exact ⟨rfl, _, World.drewN_drewN _ _ _⟩ | exact ⟨rfl, _, Eq.trans (World.drewN_drewN _ _ _) (congrArg (World.drewN _) (Nat.add_assoc _ _ _))⟩))))
        go_loopg [9, 45] kj2 (fun kq v9 v45 w' => ∃ (x9_2 : Int) (x45_2 : Int), v9 = .int .u64 x9_2 ∧ v45 = .int .i64 x45_2 ∧ Aside0 (varint_Get.l0 kq a0 a1 (bt a0 a1) t103 x9_2 (wrap64 (t103 - 1)) x45_2 = some (r1, r2, r3)) ∧ Aside0 (kq ≤ kj2) ∧ Aside0 (Below w.heap.size w w'))
        case atStart => exact ⟨(0), (0), (by first | rfl | (simp; done) | (simp [*]; done)), (by first | rfl | (simp; done) | (simp [*]; done)), H', ⟨Nat.le_refl _⟩, ⟨by repeat (first | (with_reducible first | exact HB.out | apply below_alloc | apply pw_below_drewN | apply below_drew1) | exact HB.out)⟩⟩
        case round =>
         clear H'
         try clear c1
         try clear p1
         try clear q1
         try clear hx1
         try clear p2
         try clear c4
         try clear c4b0
         try clear c5
         try clear c6
         try clear c6b0
         try clear c6b1
         try clear p6
         try clear c7
         try clear c7b0
         try clear c8
         try clear c8b0
         try clear p9
         try clear q9
         try clear hx9
         try clear c11
         try clear c11b0
         try clear p12
         try clear q12
         try clear hx12
         try clear p13
         try clear q13
         try clear hx13
         try clear p12
         try clear p13
         try clear p2
         try clear p9
         try clear q12
         try clear q13
         try clear q9
         obtain ⟨x9_2, x45_2, rfl, rfl, HA, HK2, HB⟩ := hrel
         cases gk with
         | zero => exact absurd HA.out (by simp [varint_Get.l0])
         | succ k2 =>
          have H := HA.out
          clear HA
          simp only [varint_Get.l0] at H
          by_cases c15 : x45_2 < (wrap64 (t103 - 1))
          ·rw [if_pos c15] at H
           have c15b0 : decide (x45_2 < (wrap64 (t103 - 1))) = true := decide_eq_true c15
           clear c15
           obtain ⟨ji16, hji16⟩ : ∃ j_ : Int, (wrap64 ((wrap64 (a1 + 1)) + x45_2)) = j_ := ⟨_, rfl⟩
           replace H : (if 0 ≤ (ji16) then (if (ji16) < (a0.size : Int) then (varint_Get.l0 k2 a0 a1 (bt a0 a1) t103 (Go.bits .or .u64 (IntKind.u64.wrap (x9_2 * 256)) (IntKind.u64.wrap (bt a0 (ji16)))) (wrap64 (t103 - 1)) (wrap64 (x45_2 + 1))) else (none)) else (none)) = some (r1, r2, r3) := by first | (rw [hji16] at H; exact H) | (simp only [hji16] at H ⊢; exact H)
           have hji16w : (IntKind.i64.wrap ((wrap64 (a1 + 1)) + x45_2)) = ji16 := (i64_w _).trans hji16
           by_cases c17 : 0 ≤ (ji16)
           ·rw [if_pos c17] at H
            have c17b0 : decide (0 ≤ (ji16)) = true := decide_eq_true c17
            clear c17
            by_cases c18 : (ji16) < (a0.size : Int)
            ·rw [if_pos c18] at H
             have c18b0 : decide ((ji16) < (a0.size : Int)) = true := decide_eq_true c18
             clear c18
             have H' := Aside0.mk H
             clear H
             have p19 : 0 ≤ ((ji16) : Int) := of_decide_eq_true (by first | (with_reducible assumption) | assumption)
             have q19 : (ji16) < (a0.size : Int) := of_decide_eq_true (by first | (with_reducible assumption) | assumption)
             have hx19 := bt_at a0 (ji16)
             replace p19 := eq_true p19
             replace q19 := eq_true q19
             go_wp2
             repeat (go_quiet (fail); try go_wp2)
             go_roundg k2
             case measure => have := HJ2.out; have := HK2.out; omega
             case rel => exact ⟨(Go.bits .or .u64 (IntKind.u64.wrap (x9_2 * 256)) (IntKind.u64.wrap (bt a0 (ji16)))), (wrap64 (x45_2 + 1)), (by first | rfl | (simp; done) | (simp only [← hji16] <;> (first | rfl | simp)) | (simp [*]; done)), (by first | rfl | (simp; done) | (simp [*]; done)), H', ⟨by have := HJ2.out; have := HK2.out; omega⟩, ⟨by repeat (first | (with_reducible first | exact HB.out | apply below_alloc | apply pw_below_drewN | apply below_drew1) | exact HB.out)⟩⟩
            ·rw [if_neg c18] at H
             exact absurd H (by simp)
           ·rw [if_neg c17] at H
            exact absurd H (by simp)
          ·rw [if_neg c15] at H
           have c15b0 : decide (x45_2 < (wrap64 (t103 - 1))) = false := decide_eq_false c15
           clear c15
           by_cases c20 : (bt a0 a1) ≤ 240
           ·rw [if_pos c20] at H
            have c20b0 : decide ((bt a0 a1) ≤ 240) = true := decide_eq_true c20
            clear c20
            replace H := Option.bind_eq_some_iff.mp H
            obtain ⟨t104, A210, H⟩ := H
            replace H : (if t104 = t103 then (some (IntKind.u64.wrap ((bt a0 a1)), wrap64 (a1 + t103), 0)) else (some (0, 0, 4))) = some (r1, r2, r3) := H
            have A21 := Aside0.mk A210
            clear A210
            by_cases c22 : t104 = t103
            ·rw [if_pos c22] at H
             have c22b0 : (t104 == t103) = true := beq_iff_eq.mpr c22
             have c22b1 : (t104 != t103) = false := bne_eq_false_iff_eq.mpr c22
             clear c22
             simp only [Option.some.injEq, Prod.mk.injEq] at H
             obtain ⟨rfl, rfl, rfl⟩ := H
             go_wp2_with (first | (go_at_call 75; (with_reducible refine (varint_Size.calls (IntKind.u64.wrap ((bt a0 a1))) t104 _ A21.out).mono ?_); rintro e w23 ⟨rfl, hb⟩; have n0_ := Aside0.mk (below_step (by repeat (first | (with_reducible first | exact HB.out | apply below_alloc | apply pw_below_drewN | apply below_drew1) | exact HB.out)) hb); clear HB; have HB := n0_; clear n0_; (try clear hb); (try clear hb2); (try clear hk); (try clear hi)))
             repeat (go_quiet (first | (go_at_call 75; (with_reducible refine (varint_Size.calls (IntKind.u64.wrap ((bt a0 a1))) t104 _ A21.out).mono ?_); rintro e w23 ⟨rfl, hb⟩; have n0_ := Aside0.mk (below_step (by repeat (first | (with_reducible first | exact HB.out | apply below_alloc | apply pw_below_drewN | apply below_drew1) | exact HB.out)) hb); clear HB; have HB := n0_; clear n0_; (try clear hb); (try clear hb2); (try clear hk); (try clear hi))); try go_wp2_with (first | (go_at_call 75; (with_reducible refine (varint_Size.calls (IntKind.u64.wrap ((bt a0 a1))) t104 _ A21.out).mono ?_); rintro e w23 ⟨rfl, hb⟩; have n0_ := Aside0.mk (below_step (by repeat (first | (with_reducible first | exact HB.out | apply below_alloc | apply pw_below_drewN | apply below_drew1) | exact HB.out)) hb); clear HB; have HB := n0_; clear n0_; (try clear hb); (try clear hb2); (try clear hk); (try clear hi))))
             go_ret3
             exact ⟨by first | rfl | (simp [errW_none, errW_some] <;> rfl) | (simp [*, errW_none, errW_some] <;> rfl), by repeat (first | (with_reducible first | exact HB.out | apply below_alloc | apply pw_below_drewN | apply below_drew1) | exact HB.out)⟩
            ·rw [if_neg c22] at H
             have c22b0 : (t104 == t103) = false := beq_eq_false_iff_ne.mpr c22
             have c22b1 : (t104 != t103) = true := bne_iff_ne.mpr c22
             simp only [Option.some.injEq, Prod.mk.injEq] at H
             obtain ⟨rfl, rfl, rfl⟩ := H
             go_wp2_with (first | (go_at_call 75; (with_reducible refine (varint_Size.calls (IntKind.u64.wrap ((bt a0 a1))) t104 _ A21.out).mono ?_); rintro e w24 ⟨rfl, hb⟩; have n0_ := Aside0.mk (below_step (by repeat (first | (with_reducible first | exact HB.out | apply below_alloc | apply pw_below_drewN | apply below_drew1) | exact HB.out)) hb); clear HB; have HB := n0_; clear n0_; (try clear hb); (try clear hb2); (try clear hk); (try clear hi)))
             repeat (go_quiet (first | (go_at_call 75; (with_reducible refine (varint_Size.calls (IntKind.u64.wrap ((bt a0 a1))) t104 _ A21.out).mono ?_); rintro e w24 ⟨rfl, hb⟩; have n0_ := Aside0.mk (below_step (by repeat (first | (with_reducible first | exact HB.out | apply below_alloc | apply pw_below_drewN | apply below_drew1) | exact HB.out)) hb); clear HB; have HB := n0_; clear n0_; (try clear hb); (try clear hb2); (try clear hk); (try clear hi))); try go_wp2_with (first | (go_at_call 75; (with_reducible refine (varint_Size.calls (IntKind.u64.wrap ((bt a0 a1))) t104 _ A21.out).mono ?_); rintro e w24 ⟨rfl, hb⟩; have n0_ := Aside0.mk (below_step (by repeat (first | (with_reducible first | exact HB.out | apply below_alloc | apply pw_below_drewN | apply below_drew1) | exact HB.out)) hb); clear HB; have HB := n0_; clear n0_; (try clear hb); (try clear hb2); (try clear hk); (try clear hi))))
             go_ret3
             exact ⟨by first | rfl | (simp [errW_none, errW_some] <;> rfl) | (simp [*, errW_none, errW_some] <;> rfl), by repeat (first | (with_reducible first | exact HB.out | apply below_alloc | apply pw_below_drewN | apply below_drew1) | exact HB.out)⟩
           ·rw [if_neg c20] at H
            have c20b0 : decide ((bt a0 a1) ≤ 240) = false := decide_eq_false c20
            clear c20
            by_cases c25 : (bt a0 a1) < 249
            ·rw [if_pos c25] at H
             have c25b0 : decide ((bt a0 a1) < 249) = true := decide_eq_true c25
             clear c25
             replace H := Option.bind_eq_some_iff.mp H
             obtain ⟨t105, A260, H⟩ := H
             replace H : (if t105 = t103 then (some (IntKind.u64.wrap (x9_2 + (240 + (256 * (((bt a0 a1) - 241) % 256)))), wrap64 (a1 + t103), 0)) else (some (0, 0, 4))) = some (r1, r2, r3) := H
             have A26 := Aside0.mk A260
             clear A260
             by_cases c27 : t105 = t103
             ·rw [if_pos c27] at H
              have c27b0 : (t105 == t103) = true := beq_iff_eq.mpr c27
              have c27b1 : (t105 != t103) = false := bne_eq_false_iff_eq.mpr c27
              clear c27
              simp only [Option.some.injEq, Prod.mk.injEq] at H
              obtain ⟨rfl, rfl, rfl⟩ := H
              go_wp2_with (first | (go_at_call 75; (with_reducible refine (varint_Size.calls (IntKind.u64.wrap (x9_2 + (240 + (256 * (((bt a0 a1) - 241) % 256))))) t105 _ A26.out).mono ?_); rintro e w28 ⟨rfl, hb⟩; have n0_ := Aside0.mk (below_step (by repeat (first | (with_reducible first | exact HB.out | apply below_alloc | apply pw_below_drewN | apply below_drew1) | exact HB.out)) hb); clear HB; have HB := n0_; clear n0_; (try clear hb); (try clear hb2); (try clear hk); (try clear hi)))
              repeat (go_quiet (first | (go_at_call 75; (with_reducible refine (varint_Size.calls (IntKind.u64.wrap (x9_2 + (240 + (256 * (((bt a0 a1) - 241) % 256))))) t105 _ A26.out).mono ?_); rintro e w28 ⟨rfl, hb⟩; have n0_ := Aside0.mk (below_step (by repeat (first | (with_reducible first | exact HB.out | apply below_alloc | apply pw_below_drewN | apply below_drew1) | exact HB.out)) hb); clear HB; have HB := n0_; clear n0_; (try clear hb); (try clear hb2); (try clear hk); (try clear hi))); try go_wp2_with (first | (go_at_call 75; (with_reducible refine (varint_Size.calls (IntKind.u64.wrap (x9_2 + (240 + (256 * (((bt a0 a1) - 241) % 256))))) t105 _ A26.out).mono ?_); rintro e w28 ⟨rfl, hb⟩; have n0_ := Aside0.mk (below_step (by repeat (first | (with_reducible first | exact HB.out | apply below_alloc | apply pw_below_drewN | apply below_drew1) | exact HB.out)) hb); clear HB; have HB := n0_; clear n0_; (try clear hb); (try clear hb2); (try clear hk); (try clear hi))))
              go_ret3
              exact ⟨by first | rfl | (simp [errW_none, errW_some] <;> rfl) | (simp [*, errW_none, errW_some] <;> rfl), by repeat (first | (with_reducible first | exact HB.out | apply below_alloc | apply pw_below_drewN | apply below_drew1) | exact HB.out)⟩
             ·rw [if_neg c27] at H
              have c27b0 : (t105 == t103) = false := beq_eq_false_iff_ne.mpr c27
              have c27b1 : (t105 != t103) = true := bne_iff_ne.mpr c27
              simp only [Option.some.injEq, Prod.mk.injEq] at H
              obtain ⟨rfl, rfl, rfl⟩ := H
              go_wp2_with (first | (go_at_call 75; (with_reducible refine (varint_Size.calls (IntKind.u64.wrap (x9_2 + (240 + (256 * (((bt a0 a1) - 241) % 256))))) t105 _ A26.out).mono ?_); rintro e w29 ⟨rfl, hb⟩; have n0_ := Aside0.mk (below_step (by repeat (first | (with_reducible first | exact HB.out | apply below_alloc | apply pw_below_drewN | apply below_drew1) | exact HB.out)) hb); clear HB; have HB := n0_; clear n0_; (try clear hb); (try clear hb2); (try clear hk); (try clear hi)))
              repeat (go_quiet (first | (go_at_call 75; (with_reducible refine (varint_Size.calls (IntKind.u64.wrap (x9_2 + (240 + (256 * (((bt a0 a1) - 241) % 256))))) t105 _ A26.out).mono ?_); rintro e w29 ⟨rfl, hb⟩; have n0_ := Aside0.mk (below_step (by repeat (first | (with_reducible first | exact HB.out | apply below_alloc | apply pw_below_drewN | apply below_drew1) | exact HB.out)) hb); clear HB; have HB := n0_; clear n0_; (try clear hb); (try clear hb2); (try clear hk); (try clear hi))); try go_wp2_with (first | (go_at_call 75; (with_reducible refine (varint_Size.calls (IntKind.u64.wrap (x9_2 + (240 + (256 * (((bt a0 a1) - 241) % 256))))) t105 _ A26.out).mono ?_); rintro e w29 ⟨rfl, hb⟩; have n0_ := Aside0.mk (below_step (by repeat (first | (with_reducible first | exact HB.out | apply below_alloc | apply pw_below_drewN | apply below_drew1) | exact HB.out)) hb); clear HB; have HB := n0_; clear n0_; (try clear hb); (try clear hb2); (try clear hk); (try clear hi))))
              go_ret3
              exact ⟨by first | rfl | (simp [errW_none, errW_some] <;> rfl) | (simp [*, errW_none, errW_some] <;> rfl), by repeat (first | (with_reducible first | exact HB.out | apply below_alloc | apply pw_below_drewN | apply below_drew1) | exact HB.out)⟩
            ·rw [if_neg c25] at H
             have c25b0 : decide ((bt a0 a1) < 249) = false := decide_eq_false c25
             clear c25
             by_cases c30 : (bt a0 a1) = 249
             ·rw [if_pos c30] at H
              have c30b0 : ((bt a0 a1) == 249) = true := beq_iff_eq.mpr c30
              have c30b1 : ((bt a0 a1) != 249) = false := bne_eq_false_iff_eq.mpr c30
              clear c30
              replace H := Option.bind_eq_some_iff.mp H
              obtain ⟨t106, A310, H⟩ := H
              replace H : (if t106 = t103 then (some (IntKind.u64.wrap (x9_2 + 2288), wrap64 (a1 + t103), 0)) else (some (0, 0, 4))) = some (r1, r2, r3) := H
              have A31 := Aside0.mk A310
              clear A310
              by_cases c32 : t106 = t103
              ·rw [if_pos c32] at H
               have c32b0 : (t106 == t103) = true := beq_iff_eq.mpr c32
               have c32b1 : (t106 != t103) = false := bne_eq_false_iff_eq.mpr c32
               clear c32
               simp only [Option.some.injEq, Prod.mk.injEq] at H
               obtain ⟨rfl, rfl, rfl⟩ := H
               go_wp2_with (first | (go_at_call 75; (with_reducible refine (varint_Size.calls (IntKind.u64.wrap (x9_2 + 2288)) t106 _ A31.out).mono ?_); rintro e w33 ⟨rfl, hb⟩; have n0_ := Aside0.mk (below_step (by repeat (first | (with_reducible first | exact HB.out | apply below_alloc | apply pw_below_drewN | apply below_drew1) | exact HB.out)) hb); clear HB; have HB := n0_; clear n0_; (try clear hb); (try clear hb2); (try clear hk); (try clear hi)))
               repeat (go_quiet (first | (go_at_call 75; (with_reducible refine (varint_Size.calls (IntKind.u64.wrap (x9_2 + 2288)) t106 _ A31.out).mono ?_); rintro e w33 ⟨rfl, hb⟩; have n0_ := Aside0.mk (below_step (by repeat (first | (with_reducible first | exact HB.out | apply below_alloc | apply pw_below_drewN | apply below_drew1) | exact HB.out)) hb); clear HB; have HB := n0_; clear n0_; (try clear hb); (try clear hb2); (try clear hk); (try clear hi))); try go_wp2_with (first | (go_at_call 75; (with_reducible refine (varint_Size.calls (IntKind.u64.wrap (x9_2 + 2288)) t106 _ A31.out).mono ?_); rintro e w33 ⟨rfl, hb⟩; have n0_ := Aside0.mk (below_step (by repeat (first | (with_reducible first | exact HB.out | apply below_alloc | apply pw_below_drewN | apply below_drew1) | exact HB.out)) hb); clear HB; have HB := n0_; clear n0_; (try clear hb); (try clear hb2); (try clear hk); (try clear hi))))
               go_ret3
               exact ⟨by first | rfl | (simp [errW_none, errW_some] <;> rfl) | (simp [*, errW_none, errW_some] <;> rfl), by repeat (first | (with_reducible first | exact HB.out | apply below_alloc | apply pw_below_drewN | apply below_drew1) | exact HB.out)⟩
              ·rw [if_neg c32] at H
               have c32b0 : (t106 == t103) = false := beq_eq_false_iff_ne.mpr c32
               have c32b1 : (t106 != t103) = true := bne_iff_ne.mpr c32
               simp only [Option.some.injEq, Prod.mk.injEq] at H
               obtain ⟨rfl, rfl, rfl⟩ := H
               go_wp2_with (first | (go_at_call 75; (with_reducible refine (varint_Size.calls (IntKind.u64.wrap (x9_2 + 2288)) t106 _ A31.out).mono ?_); rintro e w34 ⟨rfl, hb⟩; have n0_ := Aside0.mk (below_step (by repeat (first | (with_reducible first | exact HB.out | apply below_alloc | apply pw_below_drewN | apply below_drew1) | exact HB.out)) hb); clear HB; have HB := n0_; clear n0_; (try clear hb); (try clear hb2); (try clear hk); (try clear hi)))
               repeat (go_quiet (first | (go_at_call 75; (with_reducible refine (varint_Size.calls (IntKind.u64.wrap (x9_2 + 2288)) t106 _ A31.out).mono ?_); rintro e w34 ⟨rfl, hb⟩; have n0_ := Aside0.mk (below_step (by repeat (first | (with_reducible first | exact HB.out | apply below_alloc | apply pw_below_drewN | apply below_drew1) | exact HB.out)) hb); clear HB; have HB := n0_; clear n0_; (try clear hb); (try clear hb2); (try clear hk); (try clear hi))); try go_wp2_with (first | (go_at_call 75; (with_reducible refine (varint_Size.calls (IntKind.u64.wrap (x9_2 + 2288)) t106 _ A31.out).mono ?_); rintro e w34 ⟨rfl, hb⟩; have n0_ := Aside0.mk (below_step (by repeat (first | (with_reducible first | exact HB.out | apply below_alloc | apply pw_below_drewN | apply below_drew1) | exact HB.out)) hb); clear HB; have HB := n0_; clear n0_; (try clear hb); (try clear hb2); (try clear hk); (try clear hi))))
               go_ret3
               exact ⟨by first | rfl | (simp [errW_none, errW_some] <;> rfl) | (simp [*, errW_none, errW_some] <;> rfl), by repeat (first | (with_reducible first | exact HB.out | apply below_alloc | apply pw_below_drewN | apply below_drew1) | exact HB.out)⟩
             ·rw [if_neg c30] at H
              have c30b0 : ((bt a0 a1) == 249) = false := beq_eq_false_iff_ne.mpr c30
              have c30b1 : ((bt a0 a1) != 249) = true := bne_iff_ne.mpr c30
              replace H := Option.bind_eq_some_iff.mp H
              obtain ⟨t107, A350, H⟩ := H
              replace H : (if t107 = t103 then (some (x9_2, wrap64 (a1 + t103), 0)) else (some (0, 0, 4))) = some (r1, r2, r3) := H
              have A35 := Aside0.mk A350
              clear A350
              by_cases c36 : t107 = t103
              ·rw [if_pos c36] at H
               have c36b0 : (t107 == t103) = true := beq_iff_eq.mpr c36
               have c36b1 : (t107 != t103) = false := bne_eq_false_iff_eq.mpr c36
               clear c36
               simp only [Option.some.injEq, Prod.mk.injEq] at H
               obtain ⟨rfl, rfl, rfl⟩ := H
               go_wp2_with (first | (go_at_call 75; (with_reducible refine (varint_Size.calls x9_2 t107 _ A35.out).mono ?_); rintro e w37 ⟨rfl, hb⟩; have n0_ := Aside0.mk (below_step (by repeat (first | (with_reducible first | exact HB.out | apply below_alloc | apply pw_below_drewN | apply below_drew1) | exact HB.out)) hb); clear HB; have HB := n0_; clear n0_; (try clear hb); (try clear hb2); (try clear hk); (try clear hi)))
               repeat (go_quiet (first | (go_at_call 75; (with_reducible refine (varint_Size.calls x9_2 t107 _ A35.out).mono ?_); rintro e w37 ⟨rfl, hb⟩; have n0_ := Aside0.mk (below_step (by repeat (first | (with_reducible first | exact HB.out | apply below_alloc | apply pw_below_drewN | apply below_drew1) | exact HB.out)) hb); clear HB; have HB := n0_; clear n0_; (try clear hb); (try clear hb2); (try clear hk); (try clear hi))); try go_wp2_with (first | (go_at_call 75; (with_reducible refine (varint_Size.calls x9_2 t107 _ A35.out).mono ?_); rintro e w37 ⟨rfl, hb⟩; have n0_ := Aside0.mk (below_step (by repeat (first | (with_reducible first | exact HB.out | apply below_alloc | apply pw_below_drewN | apply below_drew1) | exact HB.out)) hb); clear HB; have HB := n0_; clear n0_; (try clear hb); (try clear hb2); (try clear hk); (try clear hi))))
               go_ret3
               exact ⟨by first | rfl | (simp [errW_none, errW_some] <;> rfl) | (simp [*, errW_none, errW_some] <;> rfl), by repeat (first | (with_reducible first | exact HB.out | apply below_alloc | apply pw_below_drewN | apply below_drew1) | exact HB.out)⟩
              ·rw [if_neg c36] at H
               have c36b0 : (t107 == t103) = false := beq_eq_false_iff_ne.mpr c36
               have c36b1 : (t107 != t103) = true := bne_iff_ne.mpr c36
               simp only [Option.some.injEq, Prod.mk.injEq] at H
               obtain ⟨rfl, rfl, rfl⟩ := H
               go_wp2_with (first | (go_at_call 75; (with_reducible refine (varint_Size.calls x9_2 t107 _ A35.out).mono ?_); rintro e w38 ⟨rfl, hb⟩; have n0_ := Aside0.mk (below_step (by repeat (first | (with_reducible first | exact HB.out | apply below_alloc | apply pw_below_drewN | apply below_drew1) | exact HB.out)) hb); clear HB; have HB := n0_; clear n0_; (try clear hb); (try clear hb2); (try clear hk); (try clear hi)))
               repeat (go_quiet (first | (go_at_call 75; (with_reducible refine (varint_Size.calls x9_2 t107 _ A35.out).mono ?_); rintro e w38 ⟨rfl, hb⟩; have n0_ := Aside0.mk (below_step (by repeat (first | (with_reducible first | exact HB.out | apply below_alloc | apply pw_below_drewN | apply below_drew1) | exact HB.out)) hb); clear HB; have HB := n0_; clear n0_; (try clear hb); (try clear hb2); (try clear hk); (try clear hi))); try go_wp2_with (first | (go_at_call 75; (with_reducible refine (varint_Size.calls x9_2 t107 _ A35.out).mono ?_); rintro e w38 ⟨rfl, hb⟩; have n0_ := Aside0.mk (below_step (by repeat (first | (with_reducible first | exact HB.out | apply below_alloc | apply pw_below_drewN | apply below_drew1) | exact HB.out)) hb); clear HB; have HB := n0_; clear n0_; (try clear hb); (try clear hb2); (try clear hk); (try clear hi))))
               go_ret3
               exact ⟨by first | rfl | (simp [errW_none, errW_some] <;> rfl) | (simp [*, errW_none, errW_some] <;> rfl), by repeat (first | (with_reducible first | exact HB.out | apply below_alloc | apply pw_below_drewN | apply below_drew1) | exact HB.out)⟩
      ·rw [if_neg c8] at H
       exact absurd H (by simp)
     ·rw [if_neg c7] at H
      exact absurd H (by simp)
end Go.Proofs.YtjjimkmbbifbjaaDoor.Pv
end
section
namespace Go.Proofs.YtjjimkmbbifbjaaDoor.Pv
open Go.RowKit Go.Proofs.YtjjimkmbbifbjaaDoorW.PrintWords Go.Proofs.YtjjimkmbbifbjaaDoorW.PrintLast Go.Proofs.YtjjimkmbbifbjaaDoorW.PrintMore
attribute [local go_sem] max2_int min2_int max_two min_two max_three min_three max_four min_four
set_option linter.unusedVariables false
set_option linter.unusedSimpArgs false
def varint_Text.f (k : Nat) (a0 : ByteArray) : Option (ByteArray) := (varint_Put.f k (IntKind.u64.wrap ((a0.size : Int)))).bind fun t127 => (if t127.size + a0.size ≤ 9223372036854775807 then (some (t127 ++ a0)) else (none))
set_option maxHeartbeats 8000000 in
set_option maxRecDepth 100000 in
theorem varint_Text.calls (k : Nat) (a0 : ByteArray) (r : ByteArray) (w : World) (h : varint_Text.f k a0 = some r) :
  Calls Tryd.prog 44 #[.string a0] w fun e w' => e = .returned (.string r) ∧ Below w.heap.size w w' := by
 have HB := Aside0.mk (Below.refl w.heap.size w)
 have H : ((varint_Put.f k (IntKind.u64.wrap ((a0.size : Int)))).bind fun t127 => (if t127.size + a0.size ≤ 9223372036854775807 then (some (t127 ++ a0)) else (none))) = some r := h
 clear h
 replace H := Option.bind_eq_some_iff.mp H
 obtain ⟨t127, A20, H⟩ := H
 replace H : (if t127.size + a0.size ≤ 9223372036854775807 then (some (t127 ++ a0)) else (none)) = some r := H
 have A2 := Aside0.mk A20
 clear A20
 by_cases c3 : t127.size + a0.size ≤ 9223372036854775807
 ·rw [if_pos c3] at H
  have c3b0 := eq_true c3
  have c3b1 : decide (t127.size + a0.size ≤ 9223372036854775807) = true := decide_eq_true c3
  try have c3b2 : (9223372036854775807 < t127.size + a0.size) = False := eq_false (Nat.not_lt.2 c3)
  obtain rfl := Option.some.inj H
  rw [show IntKind.u64.wrap ((a0.size : Int)) = (a0.size : Int) from IntWalk.u64_in _ (by omega)] at A2
  go_enter Tryd.func44, Tryd.ntmps44
  go_wp2_with (first | ((with_reducible refine gate_callee (f := 42) rfl ?_); refine goesL_ (some 6) rfl rfl Tryd.func42 (by kernel_rfl) rfl #[.int .u64 (a0.size : Int)] rfl (by (try simp only [List.map_toArray, List.map_cons, List.map_nil]); first | done | rfl | (simp only [List.length_drop, List.length_take]; rfl)) ?_; (with_reducible refine (varint_Put.calls k (a0.size : Int) t127 _ A2.out).mono ?_); rintro e w4 ⟨rfl, hb⟩; refine ⟨_, rfl, ?_⟩; have n0_ := Aside0.mk (below_step (by repeat (first | (with_reducible first | exact HB.out | apply below_alloc | apply pw_below_drewN | apply below_drew1) | exact HB.out)) hb); clear HB; have HB := n0_; clear n0_; (try clear hb); (try clear hb2); (try clear hk); (try clear hi)))
  go_ret
  exact ⟨by first | rfl | (simp [errW_none, errW_some] <;> rfl) | (simp [*, errW_none, errW_some] <;> rfl), by repeat (first | (with_reducible first | exact HB.out | apply below_alloc | apply pw_below_drewN | apply below_drew1) | exact HB.out)⟩
 ·rw [if_neg c3] at H
  exact absurd H (by simp)
end Go.Proofs.YtjjimkmbbifbjaaDoor.Pv
end
section
namespace Go.Proofs.YtjjimkmbbifbjaaDoor.Pv
open Go.RowKit Go.Proofs.YtjjimkmbbifbjaaDoorW.PrintWords Go.Proofs.YtjjimkmbbifbjaaDoorW.PrintLast Go.Proofs.YtjjimkmbbifbjaaDoorW.PrintMore
attribute [local go_sem] max2_int min2_int max_two min_two max_three min_three max_four min_four
set_option linter.unusedVariables false
set_option linter.unusedSimpArgs false
def varint_Cut.f (k : Nat) (a0 : ByteArray) (a1 : Int) : Option (ByteArray × Int × Int) := (varint_Get.f k a0 a1).bind fun bt108 => (if bt108.2.2 = 0 then (if bt108.1 > 65536 then (some ((⟨#[]⟩ : ByteArray), 0, 2)) else (if (IntKind.u64.wrap (wrap64 ((a0.size : Int) - bt108.2.1))) < bt108.1 then (some ((⟨#[]⟩ : ByteArray), 0, 3)) else (if 0 ≤ bt108.2.1 then (if bt108.2.1 ≤ (wrap64 (bt108.2.1 + (wrap64 (bt108.1)))) then (if (wrap64 (bt108.2.1 + (wrap64 (bt108.1)))) ≤ (a0.size : Int) then (some (a0.extract (bt108.2.1 : Int).toNat ((wrap64 (bt108.2.1 + (wrap64 (bt108.1)))) : Int).toNat, wrap64 (bt108.2.1 + (wrap64 (bt108.1))), 0)) else (none)) else (none)) else (none)))) else (some ((⟨#[]⟩ : ByteArray), 0, bt108.2.2)))
set_option maxHeartbeats 8000000 in
set_option maxRecDepth 100000 in
theorem varint_Cut.calls (k : Nat) (a0 : ByteArray) (a1 : Int) (r1 : ByteArray) (r2 : Int) (r3 : Int) (w : World) (h : varint_Cut.f k a0 a1 = some (r1, r2, r3)) :
  Calls Tryd.prog 67 #[.string a0, .int .i64 a1] w fun e w' => e = .returned (.tuple #[.string r1, .int .i64 r2, .int .i64 r3]) ∧ Below w.heap.size w w' := by
 have HB := Aside0.mk (Below.refl w.heap.size w)
 have H : ((varint_Get.f k a0 a1).bind fun bt108 => (if bt108.2.2 = 0 then (if bt108.1 > 65536 then (some ((⟨#[]⟩ : ByteArray), 0, 2)) else (if (IntKind.u64.wrap (wrap64 ((a0.size : Int) - bt108.2.1))) < bt108.1 then (some ((⟨#[]⟩ : ByteArray), 0, 3)) else (if 0 ≤ bt108.2.1 then (if bt108.2.1 ≤ (wrap64 (bt108.2.1 + (wrap64 (bt108.1)))) then (if (wrap64 (bt108.2.1 + (wrap64 (bt108.1)))) ≤ (a0.size : Int) then (some (a0.extract (bt108.2.1 : Int).toNat ((wrap64 (bt108.2.1 + (wrap64 (bt108.1)))) : Int).toNat, wrap64 (bt108.2.1 + (wrap64 (bt108.1))), 0)) else (none)) else (none)) else (none)))) else (some ((⟨#[]⟩ : ByteArray), 0, bt108.2.2)))) = some (r1, r2, r3) := h
 clear h
 replace H := Option.bind_eq_some_iff.mp H
 obtain ⟨⟨t108, t109, t110⟩, A30, H⟩ := H
 replace H : (if t110 = 0 then (if t108 > 65536 then (some ((⟨#[]⟩ : ByteArray), 0, 2)) else (if (IntKind.u64.wrap (wrap64 ((a0.size : Int) - t109))) < t108 then (some ((⟨#[]⟩ : ByteArray), 0, 3)) else (if 0 ≤ t109 then (if t109 ≤ (wrap64 (t109 + (wrap64 (t108)))) then (if (wrap64 (t109 + (wrap64 (t108)))) ≤ (a0.size : Int) then (some (a0.extract (t109 : Int).toNat ((wrap64 (t109 + (wrap64 (t108)))) : Int).toNat, wrap64 (t109 + (wrap64 (t108))), 0)) else (none)) else (none)) else (none)))) else (some ((⟨#[]⟩ : ByteArray), 0, t110))) = some (r1, r2, r3) := H
 have A3 := Aside0.mk A30
 clear A30
 by_cases c4 : t110 = 0
 ·rw [if_pos c4] at H
  have c4b0 : (t110 == 0) = true := beq_iff_eq.mpr c4
  have c4b1 : (t110 != 0) = false := bne_eq_false_iff_eq.mpr c4
  clear c4
  by_cases c5 : t108 > 65536
  ·rw [if_pos c5] at H
   have c5b0 : decide (65536 < t108) = true := decide_eq_true c5
   clear c5
   simp only [Option.some.injEq, Prod.mk.injEq] at H
   obtain ⟨rfl, rfl, rfl⟩ := H
   go_enter Tryd.func67, Tryd.ntmps67
   go_wp2_with (first | ((with_reducible refine gate_callee (f := 66) rfl ?_); refine goesL_ (some 14) rfl rfl Tryd.func66 (by kernel_rfl) rfl #[.string a0, .int .i64 a1] rfl (by (try simp only [List.map_toArray, List.map_cons, List.map_nil]); first | done | rfl | (simp only [List.length_drop, List.length_take]; rfl)) ?_; (with_reducible refine (varint_Get.calls k a0 a1 t108 t109 t110 _ A3.out).mono ?_); rintro e w6 ⟨rfl, hb⟩; refine ⟨_, rfl, ?_⟩; have n0_ := Aside0.mk (below_step (by repeat (first | (with_reducible first | exact HB.out | apply below_alloc | apply pw_below_drewN | apply below_drew1) | exact HB.out)) hb); clear HB; have HB := n0_; clear n0_; (try clear hb); (try clear hb2); (try clear hk); (try clear hi)))
   go_ret3
   exact ⟨by first | rfl | (simp [errW_none, errW_some] <;> rfl) | (simp [*, errW_none, errW_some] <;> rfl), by repeat (first | (with_reducible first | exact HB.out | apply below_alloc | apply pw_below_drewN | apply below_drew1) | exact HB.out)⟩
  ·rw [if_neg c5] at H
   have c5b0 : decide (65536 < t108) = false := decide_eq_false c5
   clear c5
   by_cases c7 : (IntKind.u64.wrap (wrap64 ((a0.size : Int) - t109))) < t108
   ·rw [if_pos c7] at H
    have c7b0 : decide ((IntKind.u64.wrap (wrap64 ((a0.size : Int) - t109))) < t108) = true := decide_eq_true c7
    clear c7
    simp only [Option.some.injEq, Prod.mk.injEq] at H
    obtain ⟨rfl, rfl, rfl⟩ := H
    go_enter Tryd.func67, Tryd.ntmps67
    go_wp2_with (first | ((with_reducible refine gate_callee (f := 66) rfl ?_); refine goesL_ (some 14) rfl rfl Tryd.func66 (by kernel_rfl) rfl #[.string a0, .int .i64 a1] rfl (by (try simp only [List.map_toArray, List.map_cons, List.map_nil]); first | done | rfl | (simp only [List.length_drop, List.length_take]; rfl)) ?_; (with_reducible refine (varint_Get.calls k a0 a1 t108 t109 t110 _ A3.out).mono ?_); rintro e w8 ⟨rfl, hb⟩; refine ⟨_, rfl, ?_⟩; have n0_ := Aside0.mk (below_step (by repeat (first | (with_reducible first | exact HB.out | apply below_alloc | apply pw_below_drewN | apply below_drew1) | exact HB.out)) hb); clear HB; have HB := n0_; clear n0_; (try clear hb); (try clear hb2); (try clear hk); (try clear hi)))
    go_ret3
    exact ⟨by first | rfl | (simp [errW_none, errW_some] <;> rfl) | (simp [*, errW_none, errW_some] <;> rfl), by repeat (first | (with_reducible first | exact HB.out | apply below_alloc | apply pw_below_drewN | apply below_drew1) | exact HB.out)⟩
   ·rw [if_neg c7] at H
    have c7b0 : decide ((IntKind.u64.wrap (wrap64 ((a0.size : Int) - t109))) < t108) = false := decide_eq_false c7
    clear c7
    by_cases c9 : 0 ≤ t109
    ·rw [if_pos c9] at H
     have c9b0 := eq_true c9
     have c9b1 : decide (0 ≤ t109) = true := decide_eq_true c9
     clear c9
     by_cases c10 : t109 ≤ (wrap64 (t109 + (wrap64 (t108))))
     ·rw [if_pos c10] at H
      have c10b0 := eq_true c10
      have c10b1 : decide (t109 ≤ (wrap64 (t109 + (wrap64 (t108))))) = true := decide_eq_true c10
      by_cases c11 : (wrap64 (t109 + (wrap64 (t108)))) ≤ (a0.size : Int)
      ·rw [if_pos c11] at H
       have c11b0 := eq_true c11
       have c11b1 : decide ((wrap64 (t109 + (wrap64 (t108)))) ≤ (a0.size : Int)) = true := decide_eq_true c11
       simp only [Option.some.injEq, Prod.mk.injEq] at H
       obtain ⟨rfl, rfl, rfl⟩ := H
       go_enter Tryd.func67, Tryd.ntmps67
       go_wp2_with (first | ((with_reducible refine gate_callee (f := 66) rfl ?_); refine goesL_ (some 14) rfl rfl Tryd.func66 (by kernel_rfl) rfl #[.string a0, .int .i64 a1] rfl (by (try simp only [List.map_toArray, List.map_cons, List.map_nil]); first | done | rfl | (simp only [List.length_drop, List.length_take]; rfl)) ?_; (with_reducible refine (varint_Get.calls k a0 a1 t108 t109 t110 _ A3.out).mono ?_); rintro e w12 ⟨rfl, hb⟩; refine ⟨_, rfl, ?_⟩; have n0_ := Aside0.mk (below_step (by repeat (first | (with_reducible first | exact HB.out | apply below_alloc | apply pw_below_drewN | apply below_drew1) | exact HB.out)) hb); clear HB; have HB := n0_; clear n0_; (try clear hb); (try clear hb2); (try clear hk); (try clear hi)))
       go_ret3
       exact ⟨by first | rfl | (simp [errW_none, errW_some] <;> rfl) | (simp [*, errW_none, errW_some] <;> rfl), by repeat (first | (with_reducible first | exact HB.out | apply below_alloc | apply pw_below_drewN | apply below_drew1) | exact HB.out)⟩
      ·rw [if_neg c11] at H
       exact absurd H (by simp)
     ·rw [if_neg c10] at H
      exact absurd H (by simp)
    ·rw [if_neg c9] at H
     exact absurd H (by simp)
 ·rw [if_neg c4] at H
  have c4b0 : (t110 == 0) = false := beq_eq_false_iff_ne.mpr c4
  have c4b1 : (t110 != 0) = true := bne_iff_ne.mpr c4
  simp only [Option.some.injEq, Prod.mk.injEq] at H
  obtain ⟨rfl, rfl, rfl⟩ := H
  go_enter Tryd.func67, Tryd.ntmps67
  go_wp2_with (first | ((with_reducible refine gate_callee (f := 66) rfl ?_); refine goesL_ (some 14) rfl rfl Tryd.func66 (by kernel_rfl) rfl #[.string a0, .int .i64 a1] rfl (by (try simp only [List.map_toArray, List.map_cons, List.map_nil]); first | done | rfl | (simp only [List.length_drop, List.length_take]; rfl)) ?_; (with_reducible refine (varint_Get.calls k a0 a1 t108 t109 t110 _ A3.out).mono ?_); rintro e w13 ⟨rfl, hb⟩; refine ⟨_, rfl, ?_⟩; have n0_ := Aside0.mk (below_step (by repeat (first | (with_reducible first | exact HB.out | apply below_alloc | apply pw_below_drewN | apply below_drew1) | exact HB.out)) hb); clear HB; have HB := n0_; clear n0_; (try clear hb); (try clear hb2); (try clear hk); (try clear hi)))
  go_ret3
  exact ⟨by first | rfl | (simp [errW_none, errW_some] <;> rfl) | (simp [*, errW_none, errW_some] <;> rfl), by repeat (first | (with_reducible first | exact HB.out | apply below_alloc | apply pw_below_drewN | apply below_drew1) | exact HB.out)⟩
end Go.Proofs.YtjjimkmbbifbjaaDoor.Pv
end
