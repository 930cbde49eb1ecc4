/-
  Chapter 08: the pipe: put and take, step by step (a select of one case with a default, in one goroutine).
-/
import Derived.Test.YtgomnnddfddkhaaProg
import Derived.WalkKit
import Derived.WalkSpells
import Derived.Conc.LoneCalls
import Derived.Conc.LoneSelect
import Derived.Conc.LoneSelectN
import Derived.Below
import Derived.KernelRfl
import Derived.Laws.Rows
namespace Go.Proofs.Ytgomnnddfddkhaa.ML
open Go.RowKit Go.Conc Go.Proofs.Ytgomnnddfddkhaa

/-- The pipe by value: its channel. -/
def pipeB (c : Nat) : Obj := .cells #[.chan (some c)] 55
set_option maxRecDepth 100000 in
theorem put_room {w : World} {c cap s r : Nat} {buf : Array Value} (x : ByteArray) (hc : w.heap[c]? = some (.chan cap buf false s r false)) (hroom : buf.size < cap) :
    Calls Try.prog 28 #[.agg #[.chan (some c)], .string x] w fun e w' => e = .returned (.bool true) ∧ w' = (w.alloc (pipeB c)).setChan c cap (buf.push (.string x)) false (s + 1) r false := by
  have hcl : c < w.heap.size := (Array.getElem?_eq_some_iff.1 hc).1
  refine calls_of_loneTo fun cs => ?_
  have e : Frame.enter Try.prog 28 #[.agg #[.chan (some c)], .string x] .normal = (base 28).at ⟨#[.agg #[.chan (some c)], .string x, undef, undef, undef, undef, undef, undef, undef, undef, undef], []⟩ [.code (Try.f28.body.getD .skip)] := by
    simp [Frame.enter, Frame.at, Try.func28, base, Try.f28]
    try rfl
  rw [e]
  refine LoneTo.goes (n := 40) ?_
  simp only [Try.f28, Option.getD_some]
  s_c stepG_seq
  s_reg
  s_op
  s_op
  s_c stepG_region_end
  s_c stepG_seq
  s_c stepG_seq
  s_reg
  s_op
  s_op
  s_c stepG_region_end
  s_reg
  s_op
  s_c stepG_region_end
  s_c stepG_seq
  s_reg
  s_stop
  refine LoneTo.step (step_lone_select_send_room (c := c) (v := .string x) (z' := .string ⟨#[]⟩) (cap := cap) (buf := buf) (s := s) (r := r) (tm := false)
    (stepG_comm (cases := #[scase c (.string x) (.string ⟨#[]⟩)]) (blocking := false) (shape := .select) (w' := w.alloc (pipeB c)) rfl rfl (by decide) (by simp [go_sem, execOp, scase, Act.eval, pipeB])) ((Below.heap_alloc _ _ _ hcl).trans hc) hroom) ?_
  rw [Frame.finish_at]
  walk_nrm
  refine LoneTo.goes (n := 40) ?_
  s_op
  s_op
  s_c stepG_region_end
  s_c stepG_block
  s_cond true
  s_c stepG_seq
  s_reg
  s_op
  s_c stepG_region_end
  s_c stepG_ret'
  s_stop
  exact LoneTo.done ⟨.returned (.bool true), _, rfl, ⟨rfl, rfl⟩, rfl, rfl, rfl, rfl, _, Try.func28, by simp [results, Try.f28, Frame.at]⟩
set_option maxRecDepth 100000 in
theorem put_full {w : World} {c cap s r : Nat} {buf : Array Value} (x : ByteArray) (hc : w.heap[c]? = some (.chan cap buf false s r false)) (hroom : cap ≤ buf.size) :
    Calls Try.prog 28 #[.agg #[.chan (some c)], .string x] w fun e w' => e = .returned (.bool false) ∧ w' = (w.alloc (pipeB c)) := by
  have hcl : c < w.heap.size := (Array.getElem?_eq_some_iff.1 hc).1
  refine calls_of_loneTo fun cs => ?_
  have e : Frame.enter Try.prog 28 #[.agg #[.chan (some c)], .string x] .normal = (base 28).at ⟨#[.agg #[.chan (some c)], .string x, undef, undef, undef, undef, undef, undef, undef, undef, undef], []⟩ [.code (Try.f28.body.getD .skip)] := by
    simp [Frame.enter, Frame.at, Try.func28, base, Try.f28]
    try rfl
  rw [e]
  refine LoneTo.goes (n := 40) ?_
  simp only [Try.f28, Option.getD_some]
  s_c stepG_seq
  s_reg
  s_op
  s_op
  s_c stepG_region_end
  s_c stepG_seq
  s_c stepG_seq
  s_reg
  s_op
  s_op
  s_c stepG_region_end
  s_reg
  s_op
  s_c stepG_region_end
  s_c stepG_seq
  s_reg
  s_stop
  refine LoneTo.step (step_lone_select_send_full (c := c) (v := .string x) (z' := .string ⟨#[]⟩) (cap := cap) (buf := buf) (s := s) (r := r) (tm := false)
    (stepG_comm (cases := #[scase c (.string x) (.string ⟨#[]⟩)]) (blocking := false) (shape := .select) (w' := w.alloc (pipeB c)) rfl rfl (by decide) (by simp [go_sem, execOp, scase, Act.eval, pipeB])) ((Below.heap_alloc _ _ _ hcl).trans hc) hroom) ?_
  rw [Frame.finish_at]
  walk_nrm
  refine LoneTo.goes (n := 40) ?_
  s_op
  s_op
  s_c stepG_region_end
  s_c stepG_block
  s_cond false
  s_c stepG_seq
  s_reg
  s_op
  s_c stepG_region_end
  s_c stepG_ret'
  s_stop
  exact LoneTo.done ⟨.returned (.bool false), _, rfl, ⟨rfl, rfl⟩, rfl, rfl, rfl, rfl, _, Try.func28, by simp [results, Try.f28, Frame.at]⟩
set_option maxRecDepth 100000 in
theorem take_some {w : World} {c cap s r : Nat} {x : ByteArray} {l : List Value} (hc : w.heap[c]? = some (.chan cap (.string x :: l).toArray false s r false))  :
    Calls Try.prog 29 #[.agg #[.chan (some c)]] w fun e w' => e = .returned (.tuple #[.string x, .bool true]) ∧ w' = (w.alloc (pipeB c)).setChan c cap l.toArray false s (r + 1) false := by
  have hcl : c < w.heap.size := (Array.getElem?_eq_some_iff.1 hc).1
  refine calls_of_loneTo fun cs => ?_
  have e : Frame.enter Try.prog 29 #[.agg #[.chan (some c)]] .normal = (base 29).at ⟨#[.agg #[.chan (some c)], undef, undef, undef, undef, undef, undef, undef, undef, undef, undef, undef, undef, undef], []⟩ [.code (Try.f29.body.getD .skip)] := by
    simp [Frame.enter, Frame.at, Try.func29, base, Try.f29]
    try rfl
  rw [e]
  refine LoneTo.goes (n := 40) ?_
  simp only [Try.f29, Option.getD_some]
  s_c stepG_seq
  s_reg
  s_op
  s_op
  s_op
  s_c stepG_region_end
  s_c stepG_seq
  s_reg
  s_op
  s_c stepG_region_end
  s_c stepG_seq
  s_reg
  s_op
  s_op
  s_c stepG_region_end
  s_c stepG_seq
  s_reg
  s_stop
  refine LoneTo.step (step_lone_select_recv_buf (c := c) (z := .string ⟨#[]⟩) (cap := cap) (buf := (.string x :: l).toArray) (closed := false) (s := s) (r := r) (tm := false)
    (stepG_comm (cases := #[rcase c (.string ⟨#[]⟩)]) (blocking := false) (shape := .select) (w' := w.alloc (pipeB c)) rfl rfl (by decide) (by simp [go_sem, execOp, rcase, Act.eval, pipeB])) ((Below.heap_alloc _ _ _ hcl).trans hc) (by simp)) ?_
  rw [Frame.finish_at]
  walk_nrm
  refine LoneTo.goes (n := 40) ?_
  s_op
  s_op
  s_c stepG_region_end
  s_c stepG_block
  s_cond true
  s_c stepG_seq
  s_reg
  s_op
  s_op
  s_c stepG_region_end
  s_c stepG_seq
  s_reg
  s_op
  s_op
  s_op
  s_c stepG_region_end
  s_c stepG_ret'
  s_stop
  exact LoneTo.done ⟨.returned (.tuple #[.string x, .bool true]), _, rfl, ⟨rfl, rfl⟩, rfl, rfl, rfl, rfl, _, Try.func29, by simp [results, Try.f29, Frame.at]⟩
set_option maxRecDepth 100000 in
theorem take_none {w : World} {c cap s r : Nat}  (hc : w.heap[c]? = some (.chan cap #[] false s r false))  :
    Calls Try.prog 29 #[.agg #[.chan (some c)]] w fun e w' => e = .returned (.tuple #[.string ⟨#[]⟩, .bool false]) ∧ w' = (w.alloc (pipeB c)) := by
  have hcl : c < w.heap.size := (Array.getElem?_eq_some_iff.1 hc).1
  refine calls_of_loneTo fun cs => ?_
  have e : Frame.enter Try.prog 29 #[.agg #[.chan (some c)]] .normal = (base 29).at ⟨#[.agg #[.chan (some c)], undef, undef, undef, undef, undef, undef, undef, undef, undef, undef, undef, undef, undef], []⟩ [.code (Try.f29.body.getD .skip)] := by
    simp [Frame.enter, Frame.at, Try.func29, base, Try.f29]
    try rfl
  rw [e]
  refine LoneTo.goes (n := 40) ?_
  simp only [Try.f29, Option.getD_some]
  s_c stepG_seq
  s_reg
  s_op
  s_op
  s_op
  s_c stepG_region_end
  s_c stepG_seq
  s_reg
  s_op
  s_c stepG_region_end
  s_c stepG_seq
  s_reg
  s_op
  s_op
  s_c stepG_region_end
  s_c stepG_seq
  s_reg
  s_stop
  refine LoneTo.step (step_lone_select_default (c := c) (z := .string ⟨#[]⟩) (cap := cap)  (s := s) (r := r) (tm := false)
    (stepG_comm (cases := #[rcase c (.string ⟨#[]⟩)]) (blocking := false) (shape := .select) (w' := w.alloc (pipeB c)) rfl rfl (by decide) (by simp [go_sem, execOp, rcase, Act.eval, pipeB])) ((Below.heap_alloc _ _ _ hcl).trans hc) ) ?_
  rw [Frame.finish_at]
  walk_nrm
  refine LoneTo.goes (n := 40) ?_
  s_op
  s_op
  s_c stepG_region_end
  s_c stepG_block
  s_cond false
  s_c stepG_seq
  s_reg
  s_op
  s_op
  s_op
  s_c stepG_region_end
  s_c stepG_ret'
  s_stop
  exact LoneTo.done ⟨.returned (.tuple #[.string ⟨#[]⟩, .bool false]), _, rfl, ⟨rfl, rfl⟩, rfl, rfl, rfl, rfl, _, Try.func29, by simp [results, Try.f29, Frame.at]⟩
end Go.Proofs.Ytgomnnddfddkhaa.ML
