import Derived.Deep.RegionHeld3
import Derived.WalkKit
import Derived.WalkSpells
import Derived.WalkLawsBesides
import Derived.Test.YtjjimkmbbifbjaaDoorKCuts4
namespace Go.Proofs.YtjjimkmbbifbjaaDoor.SW
open Go Go.RowKit Go.Proofs.YtjjimkmbbifbjaaDoor Go.Proofs.YtjjimkmbbifbjaaDoor.TP Go.Proofs.YtjjimkmbbifbjaaDoor.TW
def tab : List Int := [107, 3, 3, 51, 1, 2, 2, 2, 6, 1, 1]
def hasB (k : Int) : Int := if 0 ≤ k ∧ k < 11 then tab.getD k.toNat 0 else 0
def tabV : Value := .agg #[.int .i64 107, .int .i64 3, .int .i64 3, .int .i64 51, .int .i64 1, .int .i64 2, .int .i64 2, .int .i64 2, .int .i64 6, .int .i64 1, .int .i64 1]
set_option maxHeartbeats 4000000 in
set_option maxRecDepth 100000 in
theorem fields_walk (w : World) : Calls Tryd.prog 56 #[] w fun e w' => e = .returned tabV ∧ Below w.heap.size w w' := by
  have hu := Tryd.underlying67
  have hu3 := Tryd.underlying3
  go_enter Tryd.func56, Tryd.ntmps56
  go_wp2
  go_returns
  exact ⟨rfl, (Below.refl _ w).alloc (Nat.le_refl _) _⟩
set_option maxHeartbeats 8000000 in
set_option maxRecDepth 100000 in
theorem has_walk (k : Int) (w : World) : Calls Tryd.prog 27 #[.int .i64 k] w fun e w' => e = .returned (.int .i64 (hasB k)) ∧ Below w.heap.size w w' := by
  have hu := Tryd.underlying67
  have hu3 := Tryd.underlying3
  unfold hasB
  by_cases h0 : k < 0
  · rw [if_neg (by omega)]
    go_enter Tryd.func27, Tryd.ntmps27
    go_wp2
    go_returns
    exact ⟨rfl, Below.refl _ _⟩
  · by_cases h1 : k < 11
    · rw [if_pos (by omega)]
      have hk : k = 0 ∨ k = 1 ∨ k = 2 ∨ k = 3 ∨ k = 4 ∨ k = 5 ∨ k = 6 ∨ k = 7 ∨ k = 8 ∨ k = 9 ∨ k = 10 := by omega
      have hf := fields_walk w
      unfold tabV at hf
      clear h0 h1
      rcases hk with rfl | rfl | rfl | rfl | rfl | rfl | rfl | rfl | rfl | rfl | rfl
      · have hx : ∀ W : World, Sem.run Tryd.prog (Instr.index 67 (.agg #[.int .i64 107, .int .i64 3, .int .i64 3, .int .i64 51, .int .i64 1, .int .i64 2, .int .i64 2, .int .i64 2, .int .i64 6, .int .i64 1, .int .i64 1]) (.int .i64 0)) W = .ok (.int .i64 107) W := fun W => by rfl
        go_enter Tryd.func27, Tryd.ntmps27
        go_wp2_with (go_at_call 56; (with_reducible refine hf.mono ?_); rintro e w2 ⟨rfl, hb⟩)
        go_returns
        exact ⟨rfl, hb⟩
      · have hx : ∀ W : World, Sem.run Tryd.prog (Instr.index 67 (.agg #[.int .i64 107, .int .i64 3, .int .i64 3, .int .i64 51, .int .i64 1, .int .i64 2, .int .i64 2, .int .i64 2, .int .i64 6, .int .i64 1, .int .i64 1]) (.int .i64 1)) W = .ok (.int .i64 3) W := fun W => by rfl
        go_enter Tryd.func27, Tryd.ntmps27
        go_wp2_with (go_at_call 56; (with_reducible refine hf.mono ?_); rintro e w2 ⟨rfl, hb⟩)
        go_returns
        exact ⟨rfl, hb⟩
      · have hx : ∀ W : World, Sem.run Tryd.prog (Instr.index 67 (.agg #[.int .i64 107, .int .i64 3, .int .i64 3, .int .i64 51, .int .i64 1, .int .i64 2, .int .i64 2, .int .i64 2, .int .i64 6, .int .i64 1, .int .i64 1]) (.int .i64 2)) W = .ok (.int .i64 3) W := fun W => by rfl
        go_enter Tryd.func27, Tryd.ntmps27
        go_wp2_with (go_at_call 56; (with_reducible refine hf.mono ?_); rintro e w2 ⟨rfl, hb⟩)
        go_returns
        exact ⟨rfl, hb⟩
      · have hx : ∀ W : World, Sem.run Tryd.prog (Instr.index 67 (.agg #[.int .i64 107, .int .i64 3, .int .i64 3, .int .i64 51, .int .i64 1, .int .i64 2, .int .i64 2, .int .i64 2, .int .i64 6, .int .i64 1, .int .i64 1]) (.int .i64 3)) W = .ok (.int .i64 51) W := fun W => by rfl
        go_enter Tryd.func27, Tryd.ntmps27
        go_wp2_with (go_at_call 56; (with_reducible refine hf.mono ?_); rintro e w2 ⟨rfl, hb⟩)
        go_returns
        exact ⟨rfl, hb⟩
      · have hx : ∀ W : World, Sem.run Tryd.prog (Instr.index 67 (.agg #[.int .i64 107, .int .i64 3, .int .i64 3, .int .i64 51, .int .i64 1, .int .i64 2, .int .i64 2, .int .i64 2, .int .i64 6, .int .i64 1, .int .i64 1]) (.int .i64 4)) W = .ok (.int .i64 1) W := fun W => by rfl
        go_enter Tryd.func27, Tryd.ntmps27
        go_wp2_with (go_at_call 56; (with_reducible refine hf.mono ?_); rintro e w2 ⟨rfl, hb⟩)
        go_returns
        exact ⟨rfl, hb⟩
      · have hx : ∀ W : World, Sem.run Tryd.prog (Instr.index 67 (.agg #[.int .i64 107, .int .i64 3, .int .i64 3, .int .i64 51, .int .i64 1, .int .i64 2, .int .i64 2, .int .i64 2, .int .i64 6, .int .i64 1, .int .i64 1]) (.int .i64 5)) W = .ok (.int .i64 2) W := fun W => by rfl
        go_enter Tryd.func27, Tryd.ntmps27
        go_wp2_with (go_at_call 56; (with_reducible refine hf.mono ?_); rintro e w2 ⟨rfl, hb⟩)
        go_returns
        exact ⟨rfl, hb⟩
      · have hx : ∀ W : World, Sem.run Tryd.prog (Instr.index 67 (.agg #[.int .i64 107, .int .i64 3, .int .i64 3, .int .i64 51, .int .i64 1, .int .i64 2, .int .i64 2, .int .i64 2, .int .i64 6, .int .i64 1, .int .i64 1]) (.int .i64 6)) W = .ok (.int .i64 2) W := fun W => by rfl
        go_enter Tryd.func27, Tryd.ntmps27
        go_wp2_with (go_at_call 56; (with_reducible refine hf.mono ?_); rintro e w2 ⟨rfl, hb⟩)
        go_returns
        exact ⟨rfl, hb⟩
      · have hx : ∀ W : World, Sem.run Tryd.prog (Instr.index 67 (.agg #[.int .i64 107, .int .i64 3, .int .i64 3, .int .i64 51, .int .i64 1, .int .i64 2, .int .i64 2, .int .i64 2, .int .i64 6, .int .i64 1, .int .i64 1]) (.int .i64 7)) W = .ok (.int .i64 2) W := fun W => by rfl
        go_enter Tryd.func27, Tryd.ntmps27
        go_wp2_with (go_at_call 56; (with_reducible refine hf.mono ?_); rintro e w2 ⟨rfl, hb⟩)
        go_returns
        exact ⟨rfl, hb⟩
      · have hx : ∀ W : World, Sem.run Tryd.prog (Instr.index 67 (.agg #[.int .i64 107, .int .i64 3, .int .i64 3, .int .i64 51, .int .i64 1, .int .i64 2, .int .i64 2, .int .i64 2, .int .i64 6, .int .i64 1, .int .i64 1]) (.int .i64 8)) W = .ok (.int .i64 6) W := fun W => by rfl
        go_enter Tryd.func27, Tryd.ntmps27
        go_wp2_with (go_at_call 56; (with_reducible refine hf.mono ?_); rintro e w2 ⟨rfl, hb⟩)
        go_returns
        exact ⟨rfl, hb⟩
      · have hx : ∀ W : World, Sem.run Tryd.prog (Instr.index 67 (.agg #[.int .i64 107, .int .i64 3, .int .i64 3, .int .i64 51, .int .i64 1, .int .i64 2, .int .i64 2, .int .i64 2, .int .i64 6, .int .i64 1, .int .i64 1]) (.int .i64 9)) W = .ok (.int .i64 1) W := fun W => by rfl
        go_enter Tryd.func27, Tryd.ntmps27
        go_wp2_with (go_at_call 56; (with_reducible refine hf.mono ?_); rintro e w2 ⟨rfl, hb⟩)
        go_returns
        exact ⟨rfl, hb⟩
      · have hx : ∀ W : World, Sem.run Tryd.prog (Instr.index 67 (.agg #[.int .i64 107, .int .i64 3, .int .i64 3, .int .i64 51, .int .i64 1, .int .i64 2, .int .i64 2, .int .i64 2, .int .i64 6, .int .i64 1, .int .i64 1]) (.int .i64 10)) W = .ok (.int .i64 1) W := fun W => by rfl
        go_enter Tryd.func27, Tryd.ntmps27
        go_wp2_with (go_at_call 56; (with_reducible refine hf.mono ?_); rintro e w2 ⟨rfl, hb⟩)
        go_returns
        exact ⟨rfl, hb⟩
    · rw [if_neg (by omega)]
      go_enter Tryd.func27, Tryd.ntmps27
      go_wp2
      go_returns
      exact ⟨rfl, Below.refl _ _⟩
end Go.Proofs.YtjjimkmbbifbjaaDoor.SW
