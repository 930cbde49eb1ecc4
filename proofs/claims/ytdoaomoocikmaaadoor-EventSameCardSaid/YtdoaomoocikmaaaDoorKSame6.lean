import Derived.Test.YtdoaomoocikmaaaDoorKSame5
namespace Go.Proofs.YtdoaomoocikmaaaDoor
open Go Go.RowKit Go.Proofs.YtdoaomoocikmaaaDoor.TP Go.Proofs.YtdoaomoocikmaaaDoor.TW
def topic_Right.f (s : ByteArray) : Option Bool := if s.size ≤ 900000 then some (rightB s) else none
theorem of_if {α : Type} {p : Prop} [Decidable p] {x y : α} (h : (if p then some x else none) = some y) : p ∧ x = y := by
  split at h
  · exact ⟨‹p›, Option.some.inj h⟩
  · cases h
theorem topic_Right.calls (s : ByteArray) (r : Bool) (w : World) (h : topic_Right.f s = some r) :
    Calls Tryd.prog 32 #[.string s] w fun e w' => e = .returned (.bool r) ∧ Below w.heap.size w w' := by
  obtain ⟨h1, rfl⟩ := of_if h
  exact right_walk s h1 w
end Go.Proofs.YtdoaomoocikmaaaDoor
