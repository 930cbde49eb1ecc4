import Derived.Test.YtjjimkmbbifbjaaDoorProg
import Derived.Below
import Derived.Deep.Draws
import Derived.Deep.AppendLies
import Derived.Maps.AppendAt
import Derived.OwnWalk
import Derived.Laws.BytesArg
import Derived.Laws.MakeOwn
import Derived.Laws.OwnMore
import Derived.Deep.OwnRows
import Derived.Tactics
import Derived.Lib.ConvBytes
import Derived.Laws.Slices
import Derived.WalkKit
import Derived.KernelRfl
import Derived.RowKit3
import Derived.Deep.LoopGhost
import Derived.Deep.QuietTactic
import Derived.BigQuiet
import Derived.WideLaws
import Derived.Deep.DeepCutAuto
import Derived.Deep.CutBlock
import Derived.Deep.RegionHeld3
import Derived.Laws.Rows
import Derived.Lib.AppendStr
import Derived.ArgAppend
import Derived.Laws.IdiomCopy
import Derived.OrdersHeld
import Derived.Laws.BitsLemmas
import Derived.RowKit
import Derived.SizedLaws
import Derived.ChangeSlices
import Derived.SliceStrings
import Derived.Test.YtjjimkmbbifbjaaDoorKGets34
import Derived.Test.YtjjimkmbbifbjaaDoorKGets35
import Derived.Test.YtjjimkmbbifbjaaDoorKGets6
section
namespace Go.Proofs.YtjjimkmbbifbjaaDoor.Pr
open Go.RowKit Go.Proofs.YtjjimkmbbifbjaaDoorW.PrintWords Go.Proofs.YtjjimkmbbifbjaaDoorW.PrintLast Go.Proofs.YtjjimkmbbifbjaaDoorW.PrintMore
attribute [local go_sem] max2_int min2_int max_two min_two max_three min_three max_four min_four
set_option linter.unusedVariables false
set_option linter.unusedSimpArgs false
def errW : Option Int → Value
 | none => .nilIface
 | some c => .iface 0 (.int .i64 c)
theorem errW_none : errW none = .nilIface := rfl
theorem errW_some (c : Int) : errW (some c) = .iface 0 (.int .i64 c) := rfl
theorem info9 : (Tryd.prog.info? 9).map (fun i => (i.zero, i.size, i.bytes)) = some (some (.string ⟨#[]⟩), 1, 16) := by kernel_rfl
theorem info23 : (Tryd.prog.info? 23).map (fun i => (i.zero, i.size, i.bytes)) = some (some (.agg #[(.int .i64 0), (.int .i64 0), (.int .i64 0), (.int .i64 0), (.string ⟨#[]⟩), (.string ⟨#[]⟩), (.bool false), (.int .i64 0)]), 8, 80) := by kernel_rfl
structure S23 where
 f0 : Int
 f1 : Int
 f2 : Int
 f3 : Int
 f4 : ByteArray
 f5 : ByteArray
 f6 : Bool
 f7 : Int
def z23 : S23 := ⟨(0 : Int), (0 : Int), (0 : Int), (0 : Int), (⟨#[]⟩ : ByteArray), (⟨#[]⟩ : ByteArray), false, (0 : Int)⟩
def k23 : Kd S23 := Kd.iso (Kd.pair (Kd.int .i64) (Kd.pair (Kd.int .i64) (Kd.pair (Kd.int .i64) (Kd.pair (Kd.int .i64) (Kd.pair Kd.string (Kd.pair Kd.string (Kd.pair Kd.bool (Kd.int .i64)))))))) (fun x : S23 => (x.f0, x.f1, x.f2, x.f3, x.f4, x.f5, x.f6, x.f7))
theorem k23_open {w : World} {x : S23} {cs : List Value} (h : k23.K w x cs) : cs = [.int .i64 x.f0, .int .i64 x.f1, .int .i64 x.f2, .int .i64 x.f3, .string x.f4, .string x.f5, .bool x.f6, .int .i64 x.f7] := by
 obtain ⟨_, _, rfl, rfl, ⟨_, _, rfl, rfl, ⟨_, _, rfl, rfl, ⟨_, _, rfl, rfl, ⟨_, _, rfl, rfl, ⟨_, _, rfl, rfl, ⟨_, _, rfl, rfl, rfl⟩⟩⟩⟩⟩⟩⟩ := h
 exact rfl
theorem k23_mkM (w : World) (base : Nat) (ok : Nat → Prop) (x : S23)  : k23.M w base ok x [.int .i64 x.f0, .int .i64 x.f1, .int .i64 x.f2, .int .i64 x.f3, .string x.f4, .string x.f5, .bool x.f6, .int .i64 x.f7] := ⟨[.int .i64 x.f0], [.int .i64 x.f1, .int .i64 x.f2, .int .i64 x.f3, .string x.f4, .string x.f5, .bool x.f6, .int .i64 x.f7], rfl, rfl, ⟨[.int .i64 x.f1], [.int .i64 x.f2, .int .i64 x.f3, .string x.f4, .string x.f5, .bool x.f6, .int .i64 x.f7], rfl, rfl, ⟨[.int .i64 x.f2], [.int .i64 x.f3, .string x.f4, .string x.f5, .bool x.f6, .int .i64 x.f7], rfl, rfl, ⟨[.int .i64 x.f3], [.string x.f4, .string x.f5, .bool x.f6, .int .i64 x.f7], rfl, rfl, ⟨[.string x.f4], [.string x.f5, .bool x.f6, .int .i64 x.f7], rfl, rfl, ⟨[.string x.f5], [.bool x.f6, .int .i64 x.f7], rfl, rfl, ⟨[.bool x.f6], [.int .i64 x.f7], rfl, rfl, rfl⟩⟩⟩⟩⟩⟩⟩
def rd_T23 (xs : List S23) (i : Int) : S23 := xs.getD i.toNat z23
theorem at_T23 {w : World} {A : Option Addr} {n : Nat} {xs : List S23} (h : Kd.C k23 w A n xs) (i : Int) (h0 : 0 ≤ i) (h1 : i < n) : ∃ ad , A = some ad ∧ w.cell? (ad.add (i.toNat * 8)) = some (.int .i64 (rd_T23 xs i).f0) ∧ w.cell? ⟨(ad.add (i.toNat * 8)).block, (ad.add (i.toNat * 8)).off + 1, none⟩ = some (.int .i64 (rd_T23 xs i).f1) ∧ w.cell? ⟨(ad.add (i.toNat * 8)).block, (ad.add (i.toNat * 8)).off + 2, none⟩ = some (.int .i64 (rd_T23 xs i).f2) ∧ w.cell? ⟨(ad.add (i.toNat * 8)).block, (ad.add (i.toNat * 8)).off + 3, none⟩ = some (.int .i64 (rd_T23 xs i).f3) ∧ w.cell? ⟨(ad.add (i.toNat * 8)).block, (ad.add (i.toNat * 8)).off + 4, none⟩ = some (.string (rd_T23 xs i).f4) ∧ w.cell? ⟨(ad.add (i.toNat * 8)).block, (ad.add (i.toNat * 8)).off + 5, none⟩ = some (.string (rd_T23 xs i).f5) ∧ w.cell? ⟨(ad.add (i.toNat * 8)).block, (ad.add (i.toNat * 8)).off + 6, none⟩ = some (.bool (rd_T23 xs i).f6) ∧ w.cell? ⟨(ad.add (i.toNat * 8)).block, (ad.add (i.toNat * 8)).off + 7, none⟩ = some (.int .i64 (rd_T23 xs i).f7) := by
 obtain ⟨ad, c, e, _, hK, hc0⟩ := Kd.C_get h z23 i h0 h1
 have hc : ∀ j u, c[j]? = some u → w.cell? (ad.add (i.toNat * 8 + j)) = some u := hc0
 obtain rfl := k23_open hK
 exact ⟨ad, e, hc 0 _ rfl, by rw [← add_field _ _ 1 (by omega)]; exact hc 1 _ rfl, by rw [← add_field _ _ 2 (by omega)]; exact hc 2 _ rfl, by rw [← add_field _ _ 3 (by omega)]; exact hc 3 _ rfl, by rw [← add_field _ _ 4 (by omega)]; exact hc 4 _ rfl, by rw [← add_field _ _ 5 (by omega)]; exact hc 5 _ rfl, by rw [← add_field _ _ 6 (by omega)]; exact hc 6 _ rfl, by rw [← add_field _ _ 7 (by omega)]; exact hc 7 _ rfl⟩
end Go.Proofs.YtjjimkmbbifbjaaDoor.Pr
end
section
namespace Go.Proofs.YtjjimkmbbifbjaaDoor.Pr
open Go.RowKit Go.Proofs.YtjjimkmbbifbjaaDoorW.PrintWords Go.Proofs.YtjjimkmbbifbjaaDoorW.PrintLast Go.Proofs.YtjjimkmbbifbjaaDoorW.PrintMore
attribute [local go_sem] max2_int min2_int max_two min_two max_three min_three max_four min_four
set_option linter.unusedVariables false
set_option linter.unusedSimpArgs false
theorem eqA23 (d : Nat) (w : World) (x0 y0 : Int) (x1 y1 : Int) (x2 y2 : Int) (x3 y3 : Int) (x4 y4 : ByteArray) (x5 y5 : ByteArray) (x6 y6 : Bool) (x7 y7 : Int) :
  (Op.equalIn (d + 2) 23 (.agg #[.int .i64 x0, .int .i64 x1, .int .i64 x2, .int .i64 x3, .string x4, .string x5, .bool x6, .int .i64 x7]) (.agg #[.int .i64 y0, .int .i64 y1, .int .i64 y2, .int .i64 y3, .string y4, .string y5, .bool y6, .int .i64 y7])).run Tryd.prog w = .ok (x0 == y0 && (x1 == y1 && (x2 == y2 && (x3 == y3 && (x4.toList == y4.toList && (x5.toList == y5.toList && (x6 == y6 && (x7 == y7)))))))) w := by
 refine eqA_of Tryd.underlying23 (by kernel_rfl) ?_
 refine eqf_cons (by rfl) (by go_simp; rfl) (by go_simp; rfl) (by go_simp) ?_
 refine eqf_cons (by rfl) (by go_simp; rfl) (by go_simp; rfl) (by go_simp) ?_
 refine eqf_cons (by rfl) (by go_simp; rfl) (by go_simp; rfl) (by go_simp) ?_
 refine eqf_cons (by rfl) (by go_simp; rfl) (by go_simp; rfl) (by go_simp) ?_
 refine eqf_cons (by rfl) (by go_simp; rfl) (by go_simp; rfl) (by go_simp) ?_
 refine eqf_cons (by rfl) (by go_simp; rfl) (by go_simp; rfl) (by go_simp) ?_
 refine eqf_cons (by rfl) (by go_simp; rfl) (by go_simp; rfl) (by go_simp) ?_
 exact eqf_last (by rfl) (by go_simp; rfl) (by go_simp; rfl) (by go_simp)
end Go.Proofs.YtjjimkmbbifbjaaDoor.Pr
end
section
namespace Go.Proofs.YtjjimkmbbifbjaaDoor.Pr
open Go.RowKit Go.Proofs.YtjjimkmbbifbjaaDoorW.PrintWords Go.Proofs.YtjjimkmbbifbjaaDoorW.PrintLast Go.Proofs.YtjjimkmbbifbjaaDoorW.PrintMore
attribute [local go_sem] max2_int min2_int max_two min_two max_three min_three max_four min_four
set_option linter.unusedVariables false
set_option linter.unusedSimpArgs false
def rivuletref23_Has.f (a0 : Int) (a1 : Int) : Option (Bool) := if a0 < 0 then (some false) else (if a0 > 10 then (some false) else ((some (([(⟨#[48, 78, 46, 84, 46, 83, 84]⟩ : ByteArray), (⟨#[48, 78, 46, 46, 46, 46, 46]⟩ : ByteArray), (⟨#[48, 78, 46, 46, 46, 46, 46]⟩ : ByteArray), (⟨#[48, 78, 46, 46, 79, 83, 46]⟩ : ByteArray), (⟨#[48, 46, 46, 46, 46, 46, 46]⟩ : ByteArray), (⟨#[46, 78, 46, 46, 46, 46, 46]⟩ : ByteArray), (⟨#[46, 78, 46, 46, 46, 46, 46]⟩ : ByteArray), (⟨#[46, 78, 46, 46, 46, 46, 46]⟩ : ByteArray), (⟨#[46, 78, 75, 46, 46, 46, 46]⟩ : ByteArray), (⟨#[48, 46, 46, 46, 46, 46, 46]⟩ : ByteArray), (⟨#[48, 46, 46, 46, 46, 46, 46]⟩ : ByteArray)] : List ByteArray) : List ByteArray)).bind fun y118 => (if 0 ≤ a0 then (if a0 < (y118.length : Int) then (if 0 ≤ a1 then (if a1 < ((rdOf ByteArray.empty y118 a0).size : Int) then (some ((bt (rdOf ByteArray.empty y118 a0) a1) != 46)) else (none)) else (none)) else (none)) else (none))))
set_option maxHeartbeats 8000000 in
set_option maxRecDepth 100000 in
theorem rivuletref23_Has.calls (a0 : Int) (a1 : Int) (r : Bool) (w : World) (h : rivuletref23_Has.f a0 a1 = some r) :
  Calls Tryd.prog 41 #[.int .i64 a0, .int .i64 a1] w fun e w' => e = .returned (.bool r) ∧ Below w.heap.size w w' := by
 have HB := Aside0.mk (Below.refl w.heap.size w)
 have H : (if a0 < 0 then (some false) else (if a0 > 10 then (some false) else ((some (([(⟨#[48, 78, 46, 84, 46, 83, 84]⟩ : ByteArray), (⟨#[48, 78, 46, 46, 46, 46, 46]⟩ : ByteArray), (⟨#[48, 78, 46, 46, 46, 46, 46]⟩ : ByteArray), (⟨#[48, 78, 46, 46, 79, 83, 46]⟩ : ByteArray), (⟨#[48, 46, 46, 46, 46, 46, 46]⟩ : ByteArray), (⟨#[46, 78, 46, 46, 46, 46, 46]⟩ : ByteArray), (⟨#[46, 78, 46, 46, 46, 46, 46]⟩ : ByteArray), (⟨#[46, 78, 46, 46, 46, 46, 46]⟩ : ByteArray), (⟨#[46, 78, 75, 46, 46, 46, 46]⟩ : ByteArray), (⟨#[48, 46, 46, 46, 46, 46, 46]⟩ : ByteArray), (⟨#[48, 46, 46, 46, 46, 46, 46]⟩ : ByteArray)] : List ByteArray) : List ByteArray)).bind fun y118 => (if 0 ≤ a0 then (if a0 < (y118.length : Int) then (if 0 ≤ a1 then (if a1 < ((rdOf ByteArray.empty y118 a0).size : Int) then (some ((bt (rdOf ByteArray.empty y118 a0) a1) != 46)) else (none)) else (none)) else (none)) else (none))))) = some r := h
 clear h
 by_cases c3 : a0 < 0
 ·rw [if_pos c3] at H
  have c3b0 : decide (a0 < 0) = true := decide_eq_true c3
  clear c3
  obtain rfl := Option.some.inj H
  go_enter Tryd.func41, Tryd.ntmps41
  go_wp2
  go_ret
  exact ⟨by first | rfl | (simp [errW_none, errW_some] <;> rfl) | (simp [*, errW_none, errW_some] <;> rfl), by repeat (first | (with_reducible first | exact HB.out | apply below_alloc | apply pw_below_drewN | apply below_drew1) | exact HB.out)⟩
 ·rw [if_neg c3] at H
  have c3b0 : decide (a0 < 0) = false := decide_eq_false c3
  clear c3
  by_cases c4 : a0 > 10
  ·rw [if_pos c4] at H
   have c4b0 : decide (10 < a0) = true := decide_eq_true c4
   clear c4
   obtain rfl := Option.some.inj H
   go_enter Tryd.func41, Tryd.ntmps41
   go_wp2
   go_ret
   exact ⟨by first | rfl | (simp [errW_none, errW_some] <;> rfl) | (simp [*, errW_none, errW_some] <;> rfl), by repeat (first | (with_reducible first | exact HB.out | apply below_alloc | apply pw_below_drewN | apply below_drew1) | exact HB.out)⟩
  ·rw [if_neg c4] at H
   have c4b0 : decide (10 < a0) = false := decide_eq_false c4
   clear c4
   obtain ⟨y118, hy118⟩ : ∃ y_ : List ByteArray, y_ = (([(⟨#[48, 78, 46, 84, 46, 83, 84]⟩ : ByteArray), (⟨#[48, 78, 46, 46, 46, 46, 46]⟩ : ByteArray), (⟨#[48, 78, 46, 46, 46, 46, 46]⟩ : ByteArray), (⟨#[48, 78, 46, 46, 79, 83, 46]⟩ : ByteArray), (⟨#[48, 46, 46, 46, 46, 46, 46]⟩ : ByteArray), (⟨#[46, 78, 46, 46, 46, 46, 46]⟩ : ByteArray), (⟨#[46, 78, 46, 46, 46, 46, 46]⟩ : ByteArray), (⟨#[46, 78, 46, 46, 46, 46, 46]⟩ : ByteArray), (⟨#[46, 78, 75, 46, 46, 46, 46]⟩ : ByteArray), (⟨#[48, 46, 46, 46, 46, 46, 46]⟩ : ByteArray), (⟨#[48, 46, 46, 46, 46, 46, 46]⟩ : ByteArray)] : List ByteArray)) := ⟨_, rfl⟩
   replace H : (if 0 ≤ a0 then (if a0 < (y118.length : Int) then (if 0 ≤ a1 then (if a1 < ((rdOf ByteArray.empty y118 a0).size : Int) then (some ((bt (rdOf ByteArray.empty y118 a0) a1) != 46)) else (none)) else (none)) else (none)) else (none)) = some r := by first | (rw [hy118]; with_reducible exact H) | (have H2_ := (Option.bind_some _ _).symm.trans H; rw [hy118]; with_reducible exact H2_) | (have H2_ := (Option.bind_some _ _).symm.trans H; with_reducible exact H2_) | with_reducible exact H | (rw [hy118]; exact H) | exact H
   have Ny118 := Aside0.mk hy118
   clear hy118
   by_cases c5 : 0 ≤ a0
   ·rw [if_pos c5] at H
    have c5b0 : decide (0 ≤ a0) = true := decide_eq_true c5
    clear c5
    by_cases c6 : a0 < (y118.length : Int)
    ·rw [if_pos c6] at H
     have c6b0 : decide (a0 < (y118.length : Int)) = true := decide_eq_true c6
     clear c6
     by_cases c7 : 0 ≤ a1
     ·rw [if_pos c7] at H
      have c7b0 : decide (0 ≤ a1) = true := decide_eq_true c7
      clear c7
      by_cases c8 : a1 < ((rdOf ByteArray.empty y118 a0).size : Int)
      ·rw [if_pos c8] at H
       have c8b0 : decide (a1 < ((rdOf ByteArray.empty y118 a0).size : Int)) = true := decide_eq_true c8
       clear c8
       obtain rfl := Option.some.inj H
       go_enter Tryd.func41, Tryd.ntmps41
       go_wp2_with (first | ((with_reducible refine gate_dst (N := 12) rfl ?_); refine Kd.R_lit Kd.string _ 9 ?hg (N := 12) ?hd (xs := ([(⟨#[48, 78, 46, 84, 46, 83, 84]⟩ : ByteArray), (⟨#[48, 78, 46, 46, 46, 46, 46]⟩ : ByteArray), (⟨#[48, 78, 46, 46, 46, 46, 46]⟩ : ByteArray), (⟨#[48, 78, 46, 46, 79, 83, 46]⟩ : ByteArray), (⟨#[48, 46, 46, 46, 46, 46, 46]⟩ : ByteArray), (⟨#[46, 78, 46, 46, 46, 46, 46]⟩ : ByteArray), (⟨#[46, 78, 46, 46, 46, 46, 46]⟩ : ByteArray), (⟨#[46, 78, 46, 46, 46, 46, 46]⟩ : ByteArray), (⟨#[46, 78, 75, 46, 46, 46, 46]⟩ : ByteArray), (⟨#[48, 46, 46, 46, 46, 46, 46]⟩ : ByteArray), (⟨#[48, 46, 46, 46, 46, 46, 46]⟩ : ByteArray)] : List ByteArray)) (inner := [.string (⟨#[48, 78, 46, 84, 46, 83, 84]⟩ : ByteArray), .string (⟨#[48, 78, 46, 46, 46, 46, 46]⟩ : ByteArray), .string (⟨#[48, 78, 46, 46, 46, 46, 46]⟩ : ByteArray), .string (⟨#[48, 78, 46, 46, 79, 83, 46]⟩ : ByteArray), .string (⟨#[48, 46, 46, 46, 46, 46, 46]⟩ : ByteArray), .string (⟨#[46, 78, 46, 46, 46, 46, 46]⟩ : ByteArray), .string (⟨#[46, 78, 46, 46, 46, 46, 46]⟩ : ByteArray), .string (⟨#[46, 78, 46, 46, 46, 46, 46]⟩ : ByteArray), .string (⟨#[46, 78, 75, 46, 46, 46, 46]⟩ : ByteArray), .string (⟨#[48, 46, 46, 46, 46, 46, 46]⟩ : ByteArray), .string (⟨#[48, 46, 46, 46, 46, 46, 46]⟩ : ByteArray)]) (ok := fun _ => True) (okp := fun _ => True) ?hr ?hp (fun _ hk => hk) trivial (Below.refl _ _) (Nat.le_refl _) (by simp) ?_; (case hd => rfl); (case hg => rfl); (case hr => first | (go_simp; done) | (go_simp; rfl)); (case hp => exact (Reps.one (show Kd.M Kd.string _ _ _ ⟨#[48, 78, 46, 84, 46, 83, 84]⟩ [.string (⟨#[48, 78, 46, 84, 46, 83, 84]⟩ : ByteArray)] from rfl) (Reps.one (show Kd.M Kd.string _ _ _ ⟨#[48, 78, 46, 46, 46, 46, 46]⟩ [.string (⟨#[48, 78, 46, 46, 46, 46, 46]⟩ : ByteArray)] from rfl) (Reps.one (show Kd.M Kd.string _ _ _ ⟨#[48, 78, 46, 46, 46, 46, 46]⟩ [.string (⟨#[48, 78, 46, 46, 46, 46, 46]⟩ : ByteArray)] from rfl) (Reps.one (show Kd.M Kd.string _ _ _ ⟨#[48, 78, 46, 46, 79, 83, 46]⟩ [.string (⟨#[48, 78, 46, 46, 79, 83, 46]⟩ : ByteArray)] from rfl) (Reps.one (show Kd.M Kd.string _ _ _ ⟨#[48, 46, 46, 46, 46, 46, 46]⟩ [.string (⟨#[48, 46, 46, 46, 46, 46, 46]⟩ : ByteArray)] from rfl) (Reps.one (show Kd.M Kd.string _ _ _ ⟨#[46, 78, 46, 46, 46, 46, 46]⟩ [.string (⟨#[46, 78, 46, 46, 46, 46, 46]⟩ : ByteArray)] from rfl) (Reps.one (show Kd.M Kd.string _ _ _ ⟨#[46, 78, 46, 46, 46, 46, 46]⟩ [.string (⟨#[46, 78, 46, 46, 46, 46, 46]⟩ : ByteArray)] from rfl) (Reps.one (show Kd.M Kd.string _ _ _ ⟨#[46, 78, 46, 46, 46, 46, 46]⟩ [.string (⟨#[46, 78, 46, 46, 46, 46, 46]⟩ : ByteArray)] from rfl) (Reps.one (show Kd.M Kd.string _ _ _ ⟨#[46, 78, 75, 46, 46, 46, 46]⟩ [.string (⟨#[46, 78, 75, 46, 46, 46, 46]⟩ : ByteArray)] from rfl) (Reps.one (show Kd.M Kd.string _ _ _ ⟨#[48, 46, 46, 46, 46, 46, 46]⟩ [.string (⟨#[48, 46, 46, 46, 46, 46, 46]⟩ : ByteArray)] from rfl) (Reps.one (show Kd.M Kd.string _ _ _ ⟨#[48, 46, 46, 46, 46, 46, 46]⟩ [.string (⟨#[48, 46, 46, 46, 46, 46, 46]⟩ : ByteArray)] from rfl) (Reps.none _ _))))))))))))); intro v119 w10 ho11 hb hg_ hnew_; clear hg_ hnew_; (first | rw [← Ny118.out] at ho11 | (simp only [Int.reduceToNat] at ho11; rw [← Ny118.out] at ho11)); have n0_ := Aside0.mk (Kd.R_lower ho11 (below_size (by repeat (first | (with_reducible first | exact HB.out | apply below_alloc | apply pw_below_drewN | apply below_drew1) | exact HB.out)))); have n1_ := Aside0.mk (below_step (by repeat (first | (with_reducible first | exact HB.out | apply below_alloc | apply pw_below_drewN | apply below_drew1) | exact HB.out)) hb); clear HB; have HO120 := n0_; have HB := n1_; clear n0_ n1_; clear hb ho11; obtain ⟨Ao12, co12, eo12⟩ := Kd.R_slice HO120.out; subst eo12; have p121 : 0 ≤ (a0 : Int) := of_decide_eq_true (by first | (with_reducible assumption) | assumption); have q121 : a0 < (y118.length : Int) := of_decide_eq_true (by first | (with_reducible assumption) | assumption); obtain ⟨ad121, e121, hx121_0⟩ := Kd.at_string (Kd.R_reads' HO120.out).2.2 a0 p121 q121; cases e121; replace p121 := eq_true p121; replace q121 := eq_true q121; have p9 : 0 ≤ (a1 : Int) := of_decide_eq_true (by first | (with_reducible assumption) | assumption); have q9 : a1 < ((rdOf ByteArray.empty y118 a0).size : Int) := of_decide_eq_true (by first | (with_reducible assumption) | assumption); have hx9 := bt_at (rdOf ByteArray.empty y118 a0) a1; replace p9 := eq_true p9; replace q9 := eq_true q9))
       go_ret
       exact ⟨by first | rfl | (simp [errW_none, errW_some] <;> rfl) | (simp [*, errW_none, errW_some] <;> rfl), by repeat (first | (with_reducible first | exact HB.out | apply below_alloc | apply pw_below_drewN | apply below_drew1) | exact HB.out)⟩
      ·rw [if_neg c8] at H
       exact absurd H (by simp)
     ·rw [if_neg c7] at H
      exact absurd H (by simp)
    ·rw [if_neg c6] at H
     exact absurd H (by simp)
   ·rw [if_neg c5] at H
    exact absurd H (by simp)
def toA (x : S23) : SP.A8 := ⟨x.f0, x.f1, x.f2, x.f3, x.f4, x.f5, x.f6, x.f7⟩
theorem arow_of {w : World} {o : Option Addr} {l : List S23} (h : Kd.C k23 w o l.length l) : SP.ARow w o (l.map toA) := by
 intro j hj
 have hj2 : j < l.length := by rw [List.length_map] at hj; exact hj
 obtain ⟨a, ha, hc⟩ := h.2.2 (by omega)
 obtain ⟨cs, hlen, hK, hcell⟩ := hc j _ (List.getElem?_eq_getElem hj2)
 obtain rfl := k23_open hK
 rw [show k23.sz = 8 from rfl] at hcell
 have bl : ∀ m, (a.add m).block = a.block := fun m => by unfold Addr.add; split <;> rfl
 refine ⟨a, ha, ?_, ?_, ?_, ?_, ?_, ?_, ?_, ?_, ?_⟩
 ·have := cell_block_lt (hcell 0 _ rfl)
  simpa [bl] using this
 ·have := hcell 0 _ rfl; simpa [toA] using this
 ·have := hcell 1 _ rfl; simpa [toA] using this
 ·have := hcell 2 _ rfl; simpa [toA] using this
 ·have := hcell 3 _ rfl; simpa [toA] using this
 ·have := hcell 4 _ rfl; simpa [toA] using this
 ·have := hcell 5 _ rfl; simpa [toA] using this
 ·have := hcell 6 _ rfl; simpa [toA] using this
 ·have := hcell 7 _ rfl; simpa [toA] using this
def smallA (l : List S23) : Bool := l.all fun x => decide (x.f1 < 100) && (decide (x.f2 < 100) && (decide (x.f3 < 100) && (decide (x.f7 < 100) && decide (x.f5.size < 100))))
def fitA (l : List S23) : Bool := decide (l.length ≤ 1000) && l.all fun x => decide (x.f4.size ≤ 900000) && decide (x.f5.size ≤ 900000)
theorem fit_all {l : List S23} (h : fitA l = true) : l.length ≤ 1000 ∧ ∀ x ∈ l.map toA, x.s.size ≤ 900000 ∧ x.t.size ≤ 900000 := by
 unfold fitA at h
 simp only [Bool.and_eq_true, decide_eq_true_eq, List.all_eq_true] at h
 refine ⟨h.1, fun x hx => ?_⟩
 obtain ⟨y, hy, rfl⟩ := List.mem_map.1 hx
 exact h.2 y hy
def script_Show.f (l : List S23) : Option ByteArray := if fitA l = true ∧ smallA l = true then some (SP.showL (l.map toA)) else none
theorem script_Show.calls (A0 : Option Addr) (c0 : Nat) (l0 : List S23) (r : ByteArray) (w : World) (hr0 : Kd.C k23 w A0 l0.length l0) (hc0 : l0.length ≤ c0) (h : script_Show.f l0 = some r) :
  Calls Tryd.prog 19 #[.slice A0 l0.length c0] w fun e w' => e = .returned (.string r) ∧ Below w.heap.size w w' := by
 obtain ⟨⟨h1, h2⟩, rfl⟩ := of_if h
 obtain ⟨hl, hs⟩ := fit_all h1
 refine SP.show_core (arow_of hr0) (List.length_map _) hc0 hl hs (fun _ => True) (fun _ _ => trivial) (fun x hx _ n hn h0 _ w2 _ => SP.itoa_small n h0 ?_ w2)
 obtain ⟨y, hy, rfl⟩ := List.mem_map.1 hx
 unfold smallA at h2
 rw [List.all_eq_true] at h2
 have hy2 := h2 y hy
 simp only [Bool.and_eq_true, decide_eq_true_eq] at hy2
 obtain ⟨y1, y2, y3, y4, y5⟩ := hy2
 rcases hn with rfl | rfl | rfl | rfl | rfl
 ·exact y1
 ·exact y2
 ·exact y3
 ·exact y4
 ·show (y.f5.size : Int) < 100
  omega
end Go.Proofs.YtjjimkmbbifbjaaDoor.Pr
end
