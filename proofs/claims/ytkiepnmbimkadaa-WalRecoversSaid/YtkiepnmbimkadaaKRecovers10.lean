import Derived.Test.YtkiepnmbimkadaaKRecovers9
namespace Go.Proofs.Ytkiepnmbimkadaa.DK
open Go.RowKit Go.Proofs.Ytkiepnmbimkadaa
attribute [local go_sem] max2_int min2_int max_two min_two
def RPuts (w w2 : World) (B : Nat) (V : Value) (k : Four) (l : List Wr) : Prop := ∃ V2, RAt w2 B V2 k l ∧ Keeps w w2 B V ∧ (V2.ownBlock = V.ownBlock ∨ ∀ b, V2.ownBlock = some b → w.heap.size ≤ b)
theorem RAt.grown {w wz w5 : World} {B : Nat} {V v : Value} {k : Four} {l : List Wr} {x : Wr} (h : RAt wz B V k l) (hk : Keeps w wz B V) (o : Obj) (hg : (wz.alloc o).grownBy w5 V.ownBlock)
    (hown : w5.ownsRow 0 88 3 v (l.length + 1) (rowsOf l ++ x.row)) (hat : v.ownBlock = V.ownBlock ∨ v.ownBlock = some (wz.alloc o).heap.size) : RPuts w (w5.setCell ⟨B, 4, none⟩ v) B V k (l ++ [x]) := by
  have hB := h.lt
  have h5 : w5.heap[B]? = some (.cells (rcells k V) 51 (0, 0)) := ((hg.block B (by simp; omega) (fun e => h.apart e.symm)).trans (Below.heap_alloc _ _ _ hB)).trans h.cells
  have hvb : v.ownBlock ≠ some B := by
    rcases hat with e | e
    · rw [e]; exact h.apart
    · rw [e]; simp; omega
  have hs := hk.size
  refine ⟨v, ⟨(set_self h5).trans (by simp [rcells]), ?_, hvb⟩, ⟨hg.os.trans hk.os, hg.tape.trans hk.tape, hg.output.trans hk.output, ?_, fun j hj ha hw => ?_⟩, ?_⟩
  · rw [List.length_append, rowsOf_append]
    have e : rowsOf [x] = x.row := by simp [rowsOf]
    rw [e]
    exact hown.kept (row := some B) ⟨rfl, rfl, rfl, by simp [World.setCell], fun j _ hj => Below.heap_setCell _ _ _ _ (fun e => hj (by rw [e]))⟩ (.inr hvb)
  · rw [set_size]
    have := hg.size
    simp at this
    omega
  · rw [Below.heap_setCell _ _ _ _ ha, hg.block j (by simp; omega) (fun e => hw e.symm), Below.heap_alloc _ _ _ (by omega)]
    exact hk.block j hj ha hw
  · rcases hat with e | e
    · exact .inl e
    · right
      intro b hb
      rw [e] at hb
      simp at hb
      omega
end Go.Proofs.Ytkiepnmbimkadaa.DK
