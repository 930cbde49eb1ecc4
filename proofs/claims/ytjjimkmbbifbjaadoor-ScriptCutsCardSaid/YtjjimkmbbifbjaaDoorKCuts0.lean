import Derived.Test.YtjjimkmbbifbjaaDoorProg
import Derived.WalkKit
import Derived.WalkSpells
import Derived.WalkLawsBesides
import Derived.LoopN
namespace Go.Proofs.YtjjimkmbbifbjaaDoor
open Go.RowKit
set_option maxHeartbeats 1000000 in
set_option maxRecDepth 100000 in
theorem wides_any (w : World) : Calls Tryd.prog 72 #[] w fun e w' => e = .returned (.agg #[.int .u64 0, .int .u64 255, .int .u64 65535, .int .u64 16777215, .int .u64 4294967295, .int .u64 1099511627775, .int .u64 281474976710655, .int .u64 72057594037927935, .int .u64 18446744073709551615]) ∧ Below w.heap.size w w' := by
  go_enter Tryd.func72, Tryd.ntmps72
  go_wp2
  refine wp_loop_rounds 9 ?_
  iterate 9 (rw [rounds_succ]; go_wp2)
  refine bodyPost_ret (v := .agg #[.int .u64 0, .int .u64 255, .int .u64 65535, .int .u64 16777215, .int .u64 4294967295, .int .u64 1099511627775, .int .u64 281474976710655, .int .u64 72057594037927935, .int .u64 18446744073709551615]) (by simp [results, Tryd.results72, go_sem]; refine ⟨?_, ?_, ?_, ?_, ?_, ?_, ?_, ?_⟩ <;> decide +kernel) rfl ⟨rfl, ?_⟩
  exact ((Below.refl _ _).alloc (Nat.le_refl _) _).alloc (by simp) _
def varint_behind.f (n : Int) : Option Int :=
  if n ≤ 16777215 then some 3 else if n ≤ 4294967295 then some 4 else if n ≤ 1099511627775 then some 5 else if n ≤ 281474976710655 then some 6
  else if n ≤ 72057594037927935 then some 7 else if n ≤ 18446744073709551615 then some 8 else none
set_option maxHeartbeats 1000000 in
set_option maxRecDepth 100000 in
theorem varint_behind.calls (a0 : Int) (r : Int) (w : World) (h : varint_behind.f a0 = some r) :
    Calls Tryd.prog 63 #[.int .u64 a0] w fun e w' => e = .returned (.int .i64 r) ∧ Below w.heap.size w w' := by
  unfold varint_behind.f at h
  by_cases h3 : a0 ≤ 16777215
  · rw [if_pos h3] at h
    obtain rfl := Option.some.inj h
    clear h
    go_enter Tryd.func63, Tryd.ntmps63
    go_wp2_with (go_at_call 72; refine (wides_any _).mono ?_; rintro e w1 ⟨rfl, hb⟩)
    refine wp_loop_rounds 1 ?_
    iterate 1 (rw [rounds_succ]; go_wp2)
    go_ret
    exact ⟨rfl, hb.alloc hb.size _⟩
  rw [if_neg h3] at h
  by_cases h4 : a0 ≤ 4294967295
  · rw [if_pos h4] at h
    obtain rfl := Option.some.inj h
    clear h
    go_enter Tryd.func63, Tryd.ntmps63
    go_wp2_with (go_at_call 72; refine (wides_any _).mono ?_; rintro e w1 ⟨rfl, hb⟩)
    refine wp_loop_rounds 2 ?_
    iterate 2 (rw [rounds_succ]; go_wp2)
    go_ret
    exact ⟨rfl, hb.alloc hb.size _⟩
  rw [if_neg h4] at h
  by_cases h5 : a0 ≤ 1099511627775
  · rw [if_pos h5] at h
    obtain rfl := Option.some.inj h
    clear h
    go_enter Tryd.func63, Tryd.ntmps63
    go_wp2_with (go_at_call 72; refine (wides_any _).mono ?_; rintro e w1 ⟨rfl, hb⟩)
    refine wp_loop_rounds 3 ?_
    iterate 3 (rw [rounds_succ]; go_wp2)
    go_ret
    exact ⟨rfl, hb.alloc hb.size _⟩
  rw [if_neg h5] at h
  by_cases h6 : a0 ≤ 281474976710655
  · rw [if_pos h6] at h
    obtain rfl := Option.some.inj h
    clear h
    go_enter Tryd.func63, Tryd.ntmps63
    go_wp2_with (go_at_call 72; refine (wides_any _).mono ?_; rintro e w1 ⟨rfl, hb⟩)
    refine wp_loop_rounds 4 ?_
    iterate 4 (rw [rounds_succ]; go_wp2)
    go_ret
    exact ⟨rfl, hb.alloc hb.size _⟩
  rw [if_neg h6] at h
  by_cases h7 : a0 ≤ 72057594037927935
  · rw [if_pos h7] at h
    obtain rfl := Option.some.inj h
    clear h
    go_enter Tryd.func63, Tryd.ntmps63
    go_wp2_with (go_at_call 72; refine (wides_any _).mono ?_; rintro e w1 ⟨rfl, hb⟩)
    refine wp_loop_rounds 5 ?_
    iterate 5 (rw [rounds_succ]; go_wp2)
    go_ret
    exact ⟨rfl, hb.alloc hb.size _⟩
  rw [if_neg h7] at h
  by_cases h8 : a0 ≤ 18446744073709551615
  · rw [if_pos h8] at h
    obtain rfl := Option.some.inj h
    clear h
    go_enter Tryd.func63, Tryd.ntmps63
    go_wp2_with (go_at_call 72; refine (wides_any _).mono ?_; rintro e w1 ⟨rfl, hb⟩)
    refine wp_loop_rounds 6 ?_
    iterate 6 (rw [rounds_succ]; go_wp2)
    go_ret
    exact ⟨rfl, hb.alloc hb.size _⟩
  rw [if_neg h8] at h
  exact absurd h (by simp)
end Go.Proofs.YtjjimkmbbifbjaaDoor
