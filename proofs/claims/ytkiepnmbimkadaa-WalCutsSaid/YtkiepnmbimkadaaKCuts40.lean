import Derived.Maps.AppendAt
import Derived.Test.YtkiepnmbimkadaaKCuts39
namespace Go.Proofs.Ytkiepnmbimkadaa.WL
open Go.RowKit Go.Proofs.Ytkiepnmbimkadaa Go.Proofs.Ytkiepnmbimkadaa.DK Go.Proofs.Ytkiepnmbimkadaa.Pr Go.Proofs.Ytkiepnmbimkadaa.VP Go.Proofs.Ytkiepnmbimkadaa.VF Go.Proofs.Ytkiepnmbimkadaa.CF Go.Proofs.Ytkiepnmbimkadaa.WF Go.Proofs.Ytkiepnmbimkadaa.ML
attribute [local go_sem] max2_int min2_int max_two min_two
def opCells (o : OpM) : List Value := [.int .i64 o.kind, .string o.s, .int .i64 o.n]
def opsCells : List OpM → List Value
  | [] => []
  | o :: l => opCells o ++ opsCells l
structure OpsAt (w : World) (base : Nat) (v : Value) (l : List OpM) : Prop where
  row : w.ownsRow base 34 3 v l.length (opsCells l)
  len : l.length ≤ 40
  small : ∀ o ∈ l, o.s.size ≤ 60
theorem OpsAt.below {w w2 : World} {base : Nat} {v : Value} {l : List OpM} (h : OpsAt w base v l) (hb : ∀ k, v.ownBlock = some k → w2.heap[k]? = w.heap[k]?) : OpsAt w2 base v l := ⟨row_moved h.row hb, h.len, h.small⟩
theorem OpsAt.num {w : World} {base n c : Nat} {o : Option Addr} {l : List OpM} (h : OpsAt w base (.slice o n c) l) : n = l.length := by
  rcases h.row.2 with ⟨e, h0⟩ | ⟨g, cap, cur, e, _⟩
  · injection e with _ e2 _
    omega
  · injection e with _ e2 _
theorem cut60 (s : ByteArray) : ∃ j : Int, (if 60 < (s.size : Int) then 60 else (s.size : Int)) = j ∧ 0 ≤ j ∧ j ≤ s.size ∧ j ≤ 60 := ⟨_, rfl, by split <;> omega, by split <;> omega, by split <;> omega⟩
end Go.Proofs.Ytkiepnmbimkadaa.WL
