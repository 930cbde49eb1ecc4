import Derived.Deep.RegionWith
import Derived.Deep.RegionHeld3
import Derived.Deep.QuietTactic
import Derived.StillTailTactics
import Derived.Test.YtkiepnmbimkadaaKRecovers0
namespace Go.Proofs.Ytkiepnmbimkadaa.DK
open Go.RowKit Go.Proofs.Ytkiepnmbimkadaa
set_option maxHeartbeats 1000000 in
theorem units_behind (i : Int) (s : ByteArray) (w : World) : Calls Try.prog 102 #[.agg #[.int .i64 i, .string s]] w fun e w' => e = .returned (.int .i64 s.size) ∧ w' = w.alloc (.cells #[.int .i64 i, .string s] 86) := by
  go_enter Try.func102, Try.ntmps102
  go_wp2
  go_ret
  exact ⟨rfl, rfl⟩
set_option maxHeartbeats 1000000 in
theorem units_instead (i : Int) (s : ByteArray) (w : World) : Calls Try.prog 100 #[.agg #[.int .i64 i, .string s]] w fun e w' => e = .returned (.int .i64 1) ∧ w' = w.alloc (.cells #[.int .i64 i, .string s] 81) := by
  go_enter Try.func100, Try.ntmps100
  go_wp2
  go_ret
  exact ⟨rfl, rfl⟩
def Four.val (r : Four) : Value := .agg #[.string r.a, .string r.b, .string r.c, .string r.d]
set_option maxHeartbeats 2000000 in
theorem do_instead {i : Int} (hi : 0 ≤ i ∧ i < 4) (s : ByteArray) (r : Four) (n : Int) (w : World) :
    Calls Try.prog 99 #[.agg #[.int .i64 i, .string s], r.val, .int .i64 n] w fun e w' => e = .returned ((if n = 1 then r.to i s else r).val) ∧ Below w.heap.size w w' := by
  unfold Four.val
  by_cases h : n = 1
  · subst h
    rcases at_cases hi.1 hi.2 with rfl | rfl | rfl | rfl
    all_goals
      clear hi
      go_enter Try.func99, Try.ntmps99
      go_wp2
      go_returns
      exact ⟨rfl, by go_grown⟩
  · clear hi
    go_enter Try.func99, Try.ntmps99
    go_wp2
    go_returns
    exact ⟨rfl, by go_grown⟩
set_option maxHeartbeats 2000000 in
theorem do_behind {i : Int} (hi : 0 ≤ i ∧ i < 4) (s : ByteArray) (r : Four) (n : Int) (h0 : 0 ≤ n) (h1 : n ≤ s.size) (h2 : (r.at i).size + (s.extract 0 n.toNat).size ≤ 9223372036854775807) (w : World) :
    Calls Try.prog 101 #[.agg #[.int .i64 i, .string s], r.val, .int .i64 n] w fun e w' => e = .returned ((r.to i (r.at i ++ s.extract 0 n.toNat)).val) ∧ Below w.heap.size w w' := by
  unfold Four.val
  rcases at_cases hi.1 hi.2 with rfl | rfl | rfl | rfl
  all_goals
    simp only [Four.at, Int.reduceEq, if_true, if_false] at h2
    clear hi
    go_enter Try.func101, Try.ntmps101
    go_wp2
    go_region
    all_goals (go_wp2; go_returns)
    exact ⟨rfl, by go_grown⟩
end Go.Proofs.Ytkiepnmbimkadaa.DK
