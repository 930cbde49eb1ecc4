import Derived.Test.YtjjimkmbbifbjaaDoorKCuts23
namespace Go.Proofs.YtjjimkmbbifbjaaDoor.SP
open Go Go.RowKit Go.Shelf Go.Proofs.YtjjimkmbbifbjaaDoor Go.Proofs.YtjjimkmbbifbjaaDoor.SW Go.Proofs.YtjjimkmbbifbjaaDoor.VP Go.Proofs.YtjjimkmbbifbjaaDoor.VF Go.Proofs.YtjjimkmbbifbjaaDoor.TP Go.Proofs.YtjjimkmbbifbjaaDoor.Pv Go.Proofs.YtjjimkmbbifbjaaDoorW.PrintWords
def names : List ByteArray := [⟨#[112, 117, 98, 108, 105, 115, 104]⟩, ⟨#[106, 111, 105, 110]⟩, ⟨#[108, 101, 97, 118, 101]⟩, ⟨#[97, 115, 107]⟩, ⟨#[116, 105, 99, 107]⟩, ⟨#[99, 111, 109, 101]⟩, ⟨#[108, 111, 115, 101]⟩, ⟨#[116, 119, 105, 99, 101]⟩, ⟨#[115, 112, 111, 105, 108]⟩, ⟨#[115, 116, 111, 112]⟩, ⟨#[115, 116, 97, 114, 116]⟩]
def nameS (k : Int) : ByteArray := if 0 ≤ k ∧ k < 11 then names.getD k.toNat ⟨#[]⟩ else ⟨#[]⟩
set_option maxHeartbeats 8000000 in
set_option maxRecDepth 100000 in
theorem name_walk (k : Int) (w : World) : Calls Tryd.prog 17 #[.int .i64 k] w fun e w' => e = .returned (.string (nameS k)) ∧ Below w.heap.size w w' := by
  have hu := Tryd.underlying56
  have hu3 := Tryd.underlying3
  by_cases h0 : k < 0
  · rw [show nameS k = ⟨#[]⟩ from if_neg (by omega)]
    go_enter Tryd.func17, Tryd.ntmps17
    go_wp2
    go_returns
    exact ⟨rfl, (Below.refl _ w).alloc (Nat.le_refl _) _⟩
  · by_cases h1 : k < 11
    · have hk : k = 0 ∨ k = 1 ∨ k = 2 ∨ k = 3 ∨ k = 4 ∨ k = 5 ∨ k = 6 ∨ k = 7 ∨ k = 8 ∨ k = 9 ∨ k = 10 := by omega
      clear h0 h1
      rcases hk with rfl | rfl | rfl | rfl | rfl | rfl | rfl | rfl | rfl | rfl | rfl
      all_goals
        go_enter Tryd.func17, Tryd.ntmps17
        go_wp2
        go_returns
        exact ⟨rfl, (Below.refl _ w).alloc (Nat.le_refl _) _⟩
    · rw [show nameS k = ⟨#[]⟩ from if_neg (by omega)]
      go_enter Tryd.func17, Tryd.ntmps17
      go_wp2
      go_returns
      exact ⟨rfl, (Below.refl _ w).alloc (Nat.le_refl _) _⟩
end Go.Proofs.YtjjimkmbbifbjaaDoor.SP
