import Derived.Test.YtjjimkmbbifbjaaDoorProg
import Derived.Below
import Derived.Deep.Draws
import Derived.Deep.AppendLies
import Derived.Maps.AppendAt
import Derived.OwnWalk
import Derived.Laws.BytesArg
import Derived.Laws.MakeOwn
import Derived.Laws.OwnMore
import Derived.Deep.OwnRows
import Derived.Tactics
import Derived.Lib.ConvBytes
import Derived.Laws.Slices
import Derived.WalkKit
import Derived.KernelRfl
import Derived.RowKit3
import Derived.Deep.LoopGhost
import Derived.Deep.QuietTactic
import Derived.BigQuiet
import Derived.WideLaws
import Derived.Deep.DeepCutAuto
import Derived.Deep.CutBlock
import Derived.Deep.RegionHeld3
import Derived.Laws.Rows
import Derived.Lib.AppendStr
import Derived.ArgAppend
import Derived.Laws.IdiomCopy
import Derived.OrdersHeld
import Derived.Laws.BitsLemmas
import Derived.RowKit
import Derived.Test.YtjjimkmbbifbjaaDoorKPuts0
import Derived.Test.YtjjimkmbbifbjaaDoorKPuts4
import Derived.Test.YtjjimkmbbifbjaaDoorKPuts10
import Derived.Test.YtjjimkmbbifbjaaDoorKPuts6
section
namespace Go.Proofs.YtjjimkmbbifbjaaDoor.Pu
open Go.RowKit Go.Proofs.YtjjimkmbbifbjaaDoorW.PrintWords Go.Proofs.YtjjimkmbbifbjaaDoorW.PrintLast Go.Proofs.YtjjimkmbbifbjaaDoorW.PrintMore
attribute [local go_sem] max2_int min2_int max_two min_two max_three min_three max_four min_four
set_option linter.unusedVariables false
set_option linter.unusedSimpArgs false
def errW : Option Int → Value
 | none => .nilIface
 | some c => .iface 0 (.int .i64 c)
theorem errW_none : errW none = .nilIface := rfl
theorem errW_some (c : Int) : errW (some c) = .iface 0 (.int .i64 c) := rfl
theorem info9 : (Tryd.prog.info? 9).map (fun i => (i.zero, i.size, i.bytes)) = some (some (.string ⟨#[]⟩), 1, 16) := by kernel_rfl
end Go.Proofs.YtjjimkmbbifbjaaDoor.Pu
end
section
namespace Go.Proofs.YtjjimkmbbifbjaaDoor.Pu
open Go.RowKit Go.Proofs.YtjjimkmbbifbjaaDoorW.PrintWords Go.Proofs.YtjjimkmbbifbjaaDoorW.PrintLast Go.Proofs.YtjjimkmbbifbjaaDoorW.PrintMore
attribute [local go_sem] max2_int min2_int max_two min_two max_three min_three max_four min_four
set_option linter.unusedVariables false
set_option linter.unusedSimpArgs false
def rivuletref23_Has.f (a0 : Int) (a1 : Int) : Option (Bool) := if a0 < 0 then (some false) else (if a0 > 10 then (some false) else ((some (([(⟨#[48, 78, 46, 84, 46, 83, 84]⟩ : ByteArray), (⟨#[48, 78, 46, 46, 46, 46, 46]⟩ : ByteArray), (⟨#[48, 78, 46, 46, 46, 46, 46]⟩ : ByteArray), (⟨#[48, 78, 46, 46, 79, 83, 46]⟩ : ByteArray), (⟨#[48, 46, 46, 46, 46, 46, 46]⟩ : ByteArray), (⟨#[46, 78, 46, 46, 46, 46, 46]⟩ : ByteArray), (⟨#[46, 78, 46, 46, 46, 46, 46]⟩ : ByteArray), (⟨#[46, 78, 46, 46, 46, 46, 46]⟩ : ByteArray), (⟨#[46, 78, 75, 46, 46, 46, 46]⟩ : ByteArray), (⟨#[48, 46, 46, 46, 46, 46, 46]⟩ : ByteArray), (⟨#[48, 46, 46, 46, 46, 46, 46]⟩ : ByteArray)] : List ByteArray) : List ByteArray)).bind fun y101 => (if 0 ≤ a0 then (if a0 < (y101.length : Int) then (if 0 ≤ a1 then (if a1 < ((rdOf ByteArray.empty y101 a0).size : Int) then (some ((bt (rdOf ByteArray.empty y101 a0) a1) != 46)) else (none)) else (none)) else (none)) else (none))))
set_option maxHeartbeats 8000000 in
set_option maxRecDepth 100000 in
theorem rivuletref23_Has.calls (a0 : Int) (a1 : Int) (r : Bool) (w : World) (h : rivuletref23_Has.f a0 a1 = some r) :
  Calls Tryd.prog 41 #[.int .i64 a0, .int .i64 a1] w fun e w' => e = .returned (.bool r) ∧ Below w.heap.size w w' := by
 have HB := Aside0.mk (Below.refl w.heap.size w)
 have H : (if a0 < 0 then (some false) else (if a0 > 10 then (some false) else ((some (([(⟨#[48, 78, 46, 84, 46, 83, 84]⟩ : ByteArray), (⟨#[48, 78, 46, 46, 46, 46, 46]⟩ : ByteArray), (⟨#[48, 78, 46, 46, 46, 46, 46]⟩ : ByteArray), (⟨#[48, 78, 46, 46, 79, 83, 46]⟩ : ByteArray), (⟨#[48, 46, 46, 46, 46, 46, 46]⟩ : ByteArray), (⟨#[46, 78, 46, 46, 46, 46, 46]⟩ : ByteArray), (⟨#[46, 78, 46, 46, 46, 46, 46]⟩ : ByteArray), (⟨#[46, 78, 46, 46, 46, 46, 46]⟩ : ByteArray), (⟨#[46, 78, 75, 46, 46, 46, 46]⟩ : ByteArray), (⟨#[48, 46, 46, 46, 46, 46, 46]⟩ : ByteArray), (⟨#[48, 46, 46, 46, 46, 46, 46]⟩ : ByteArray)] : List ByteArray) : List ByteArray)).bind fun y101 => (if 0 ≤ a0 then (if a0 < (y101.length : Int) then (if 0 ≤ a1 then (if a1 < ((rdOf ByteArray.empty y101 a0).size : Int) then (some ((bt (rdOf ByteArray.empty y101 a0) a1) != 46)) else (none)) else (none)) else (none)) else (none))))) = some r := h
 clear h
 by_cases c3 : a0 < 0
 ·rw [if_pos c3] at H
  have c3b0 : decide (a0 < 0) = true := decide_eq_true c3
  clear c3
  obtain rfl := Option.some.inj H
  go_enter Tryd.func41, Tryd.ntmps41
  go_wp2
  go_ret
  exact ⟨by first | rfl | (simp [errW_none, errW_some] <;> rfl) | (simp [*, errW_none, errW_some] <;> rfl), by repeat (first | (with_reducible first | exact HB.out | apply below_alloc | apply pw_below_drewN | apply below_drew1) | exact HB.out)⟩
 ·rw [if_neg c3] at H
  have c3b0 : decide (a0 < 0) = false := decide_eq_false c3
  clear c3
  by_cases c4 : a0 > 10
  ·rw [if_pos c4] at H
   have c4b0 : decide (10 < a0) = true := decide_eq_true c4
   clear c4
   obtain rfl := Option.some.inj H
   go_enter Tryd.func41, Tryd.ntmps41
   go_wp2
   go_ret
   exact ⟨by first | rfl | (simp [errW_none, errW_some] <;> rfl) | (simp [*, errW_none, errW_some] <;> rfl), by repeat (first | (with_reducible first | exact HB.out | apply below_alloc | apply pw_below_drewN | apply below_drew1) | exact HB.out)⟩
  ·rw [if_neg c4] at H
   have c4b0 : decide (10 < a0) = false := decide_eq_false c4
   clear c4
   obtain ⟨y101, hy101⟩ : ∃ y_ : List ByteArray, y_ = (([(⟨#[48, 78, 46, 84, 46, 83, 84]⟩ : ByteArray), (⟨#[48, 78, 46, 46, 46, 46, 46]⟩ : ByteArray), (⟨#[48, 78, 46, 46, 46, 46, 46]⟩ : ByteArray), (⟨#[48, 78, 46, 46, 79, 83, 46]⟩ : ByteArray), (⟨#[48, 46, 46, 46, 46, 46, 46]⟩ : ByteArray), (⟨#[46, 78, 46, 46, 46, 46, 46]⟩ : ByteArray), (⟨#[46, 78, 46, 46, 46, 46, 46]⟩ : ByteArray), (⟨#[46, 78, 46, 46, 46, 46, 46]⟩ : ByteArray), (⟨#[46, 78, 75, 46, 46, 46, 46]⟩ : ByteArray), (⟨#[48, 46, 46, 46, 46, 46, 46]⟩ : ByteArray), (⟨#[48, 46, 46, 46, 46, 46, 46]⟩ : ByteArray)] : List ByteArray)) := ⟨_, rfl⟩
   replace H : (if 0 ≤ a0 then (if a0 < (y101.length : Int) then (if 0 ≤ a1 then (if a1 < ((rdOf ByteArray.empty y101 a0).size : Int) then (some ((bt (rdOf ByteArray.empty y101 a0) a1) != 46)) else (none)) else (none)) else (none)) else (none)) = some r := by first | (rw [hy101]; with_reducible exact H) | (have H2_ := (Option.bind_some _ _).symm.trans H; rw [hy101]; with_reducible exact H2_) | (have H2_ := (Option.bind_some _ _).symm.trans H; with_reducible exact H2_) | with_reducible exact H | (rw [hy101]; exact H) | exact H
   have Ny101 := Aside0.mk hy101
   clear hy101
   by_cases c5 : 0 ≤ a0
   ·rw [if_pos c5] at H
    have c5b0 : decide (0 ≤ a0) = true := decide_eq_true c5
    clear c5
    by_cases c6 : a0 < (y101.length : Int)
    ·rw [if_pos c6] at H
     have c6b0 : decide (a0 < (y101.length : Int)) = true := decide_eq_true c6
     clear c6
     by_cases c7 : 0 ≤ a1
     ·rw [if_pos c7] at H
      have c7b0 : decide (0 ≤ a1) = true := decide_eq_true c7
      clear c7
      by_cases c8 : a1 < ((rdOf ByteArray.empty y101 a0).size : Int)
      ·rw [if_pos c8] at H
       have c8b0 : decide (a1 < ((rdOf ByteArray.empty y101 a0).size : Int)) = true := decide_eq_true c8
       clear c8
       obtain rfl := Option.some.inj H
       go_enter Tryd.func41, Tryd.ntmps41
       go_wp2_with (first | ((with_reducible refine gate_dst (N := 12) rfl ?_); refine Kd.R_lit Kd.string _ 9 ?hg (N := 12) ?hd (xs := ([(⟨#[48, 78, 46, 84, 46, 83, 84]⟩ : ByteArray), (⟨#[48, 78, 46, 46, 46, 46, 46]⟩ : ByteArray), (⟨#[48, 78, 46, 46, 46, 46, 46]⟩ : ByteArray), (⟨#[48, 78, 46, 46, 79, 83, 46]⟩ : ByteArray), (⟨#[48, 46, 46, 46, 46, 46, 46]⟩ : ByteArray), (⟨#[46, 78, 46, 46, 46, 46, 46]⟩ : ByteArray), (⟨#[46, 78, 46, 46, 46, 46, 46]⟩ : ByteArray), (⟨#[46, 78, 46, 46, 46, 46, 46]⟩ : ByteArray), (⟨#[46, 78, 75, 46, 46, 46, 46]⟩ : ByteArray), (⟨#[48, 46, 46, 46, 46, 46, 46]⟩ : ByteArray), (⟨#[48, 46, 46, 46, 46, 46, 46]⟩ : ByteArray)] : List ByteArray)) (inner := [.string (⟨#[48, 78, 46, 84, 46, 83, 84]⟩ : ByteArray), .string (⟨#[48, 78, 46, 46, 46, 46, 46]⟩ : ByteArray), .string (⟨#[48, 78, 46, 46, 46, 46, 46]⟩ : ByteArray), .string (⟨#[48, 78, 46, 46, 79, 83, 46]⟩ : ByteArray), .string (⟨#[48, 46, 46, 46, 46, 46, 46]⟩ : ByteArray), .string (⟨#[46, 78, 46, 46, 46, 46, 46]⟩ : ByteArray), .string (⟨#[46, 78, 46, 46, 46, 46, 46]⟩ : ByteArray), .string (⟨#[46, 78, 46, 46, 46, 46, 46]⟩ : ByteArray), .string (⟨#[46, 78, 75, 46, 46, 46, 46]⟩ : ByteArray), .string (⟨#[48, 46, 46, 46, 46, 46, 46]⟩ : ByteArray), .string (⟨#[48, 46, 46, 46, 46, 46, 46]⟩ : ByteArray)]) (ok := fun _ => True) (okp := fun _ => True) ?hr ?hp (fun _ hk => hk) trivial (Below.refl _ _) (Nat.le_refl _) (by simp) ?_; (case hd => rfl); (case hg => rfl); (case hr => first | (go_simp; done) | (go_simp; rfl)); (case hp => exact (Reps.one (show Kd.M Kd.string _ _ _ ⟨#[48, 78, 46, 84, 46, 83, 84]⟩ [.string (⟨#[48, 78, 46, 84, 46, 83, 84]⟩ : ByteArray)] from rfl) (Reps.one (show Kd.M Kd.string _ _ _ ⟨#[48, 78, 46, 46, 46, 46, 46]⟩ [.string (⟨#[48, 78, 46, 46, 46, 46, 46]⟩ : ByteArray)] from rfl) (Reps.one (show Kd.M Kd.string _ _ _ ⟨#[48, 78, 46, 46, 46, 46, 46]⟩ [.string (⟨#[48, 78, 46, 46, 46, 46, 46]⟩ : ByteArray)] from rfl) (Reps.one (show Kd.M Kd.string _ _ _ ⟨#[48, 78, 46, 46, 79, 83, 46]⟩ [.string (⟨#[48, 78, 46, 46, 79, 83, 46]⟩ : ByteArray)] from rfl) (Reps.one (show Kd.M Kd.string _ _ _ ⟨#[48, 46, 46, 46, 46, 46, 46]⟩ [.string (⟨#[48, 46, 46, 46, 46, 46, 46]⟩ : ByteArray)] from rfl) (Reps.one (show Kd.M Kd.string _ _ _ ⟨#[46, 78, 46, 46, 46, 46, 46]⟩ [.string (⟨#[46, 78, 46, 46, 46, 46, 46]⟩ : ByteArray)] from rfl) (Reps.one (show Kd.M Kd.string _ _ _ ⟨#[46, 78, 46, 46, 46, 46, 46]⟩ [.string (⟨#[46, 78, 46, 46, 46, 46, 46]⟩ : ByteArray)] from rfl) (Reps.one (show Kd.M Kd.string _ _ _ ⟨#[46, 78, 46, 46, 46, 46, 46]⟩ [.string (⟨#[46, 78, 46, 46, 46, 46, 46]⟩ : ByteArray)] from rfl) (Reps.one (show Kd.M Kd.string _ _ _ ⟨#[46, 78, 75, 46, 46, 46, 46]⟩ [.string (⟨#[46, 78, 75, 46, 46, 46, 46]⟩ : ByteArray)] from rfl) (Reps.one (show Kd.M Kd.string _ _ _ ⟨#[48, 46, 46, 46, 46, 46, 46]⟩ [.string (⟨#[48, 46, 46, 46, 46, 46, 46]⟩ : ByteArray)] from rfl) (Reps.one (show Kd.M Kd.string _ _ _ ⟨#[48, 46, 46, 46, 46, 46, 46]⟩ [.string (⟨#[48, 46, 46, 46, 46, 46, 46]⟩ : ByteArray)] from rfl) (Reps.none _ _))))))))))))); intro v102 w10 ho11 hb hg_ hnew_; clear hg_ hnew_; (first | rw [← Ny101.out] at ho11 | (simp only [Int.reduceToNat] at ho11; rw [← Ny101.out] at ho11)); have n0_ := Aside0.mk (Kd.R_lower ho11 (below_size (by repeat (first | (with_reducible first | exact HB.out | apply below_alloc | apply pw_below_drewN | apply below_drew1) | exact HB.out)))); have n1_ := Aside0.mk (below_step (by repeat (first | (with_reducible first | exact HB.out | apply below_alloc | apply pw_below_drewN | apply below_drew1) | exact HB.out)) hb); clear HB; have HO103 := n0_; have HB := n1_; clear n0_ n1_; clear hb ho11; obtain ⟨Ao12, co12, eo12⟩ := Kd.R_slice HO103.out; subst eo12; have p104 : 0 ≤ (a0 : Int) := of_decide_eq_true (by first | (with_reducible assumption) | assumption); have q104 : a0 < (y101.length : Int) := of_decide_eq_true (by first | (with_reducible assumption) | assumption); obtain ⟨ad104, e104, hx104_0⟩ := Kd.at_string (Kd.R_reads' HO103.out).2.2 a0 p104 q104; cases e104; replace p104 := eq_true p104; replace q104 := eq_true q104; have p9 : 0 ≤ (a1 : Int) := of_decide_eq_true (by first | (with_reducible assumption) | assumption); have q9 : a1 < ((rdOf ByteArray.empty y101 a0).size : Int) := of_decide_eq_true (by first | (with_reducible assumption) | assumption); have hx9 := bt_at (rdOf ByteArray.empty y101 a0) a1; replace p9 := eq_true p9; replace q9 := eq_true q9))
       go_ret
       exact ⟨by first | rfl | (simp [errW_none, errW_some] <;> rfl) | (simp [*, errW_none, errW_some] <;> rfl), by repeat (first | (with_reducible first | exact HB.out | apply below_alloc | apply pw_below_drewN | apply below_drew1) | exact HB.out)⟩
      ·rw [if_neg c8] at H
       exact absurd H (by simp)
     ·rw [if_neg c7] at H
      exact absurd H (by simp)
    ·rw [if_neg c6] at H
     exact absurd H (by simp)
   ·rw [if_neg c5] at H
    exact absurd H (by simp)
end Go.Proofs.YtjjimkmbbifbjaaDoor.Pu
end
