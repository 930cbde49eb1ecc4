import Derived.Test.YtkiepnmbimkadaaKRecovers37
namespace Go.Proofs.Ytkiepnmbimkadaa.WL
open Go.RowKit Go.Proofs.Ytkiepnmbimkadaa Go.Proofs.Ytkiepnmbimkadaa.DK Go.Proofs.Ytkiepnmbimkadaa.Pr Go.Proofs.Ytkiepnmbimkadaa.VP Go.Proofs.Ytkiepnmbimkadaa.VF Go.Proofs.Ytkiepnmbimkadaa.CF Go.Proofs.Ytkiepnmbimkadaa.WF
theorem PL.grown {K : Kind} {T : TypeId} {w w5 : World} {A : Nat} {W : Value} {L : Nat} {V v : Value} {st : St} {s : LSt} {x : ByteArray} (h : PL K T w A W L V st s) (hg : (w.alloc (.cells #[.string x] 9)).grownBy w5 V.ownBlock) (hown : w5.ownsRow 0 9 1 v (s.l.length + 1) (s.l.map Value.string ++ [.string x]))
    (hat : v.ownBlock = V.ownBlock ∨ v.ownBlock = some (w.alloc (.cells #[.string x] 9)).heap.size) : Mid K T w (w5.setCell ⟨L, 3, none⟩ v) A W L V W v st ⟨s.round, s.state, s.l ++ [x], s.sure⟩ := by
  have hA := K.lt h.disk
  have hL := h.log.lt
  have hW := K.row h.disk
  have hVl := fun k e => (h.log.row.lt k e).2
  have hvL : v.ownBlock ≠ some L := fun e => by
    rcases hat with g | g
    · rw [g] at e; exact h.log.apart e
    · rw [g] at e; simp at e; omega
  have hblk : ∀ k, k < w.heap.size → V.ownBlock ≠ some k → w5.heap[k]? = w.heap[k]? := fun k hk hn =>
    (hg.block k (by simp; omega) (fun e => hn e.symm)).trans (Below.heap_alloc _ _ _ hk)
  have hset : ∀ k, k < w.heap.size → V.ownBlock ≠ some k → k ≠ L → (w5.setCell ⟨L, 3, none⟩ v).heap[k]? = w.heap[k]? := fun k hk hn hkL => (Below.heap_setCell _ _ _ _ hkL).trans (hblk k hk hn)
  have hfr : v.ownBlock = V.ownBlock ∨ ∀ b, v.ownBlock = some b → w.heap.size ≤ b := hat.imp id fun g b e => by
    rw [g] at e; simp at e; omega
  refine ⟨⟨K.moved h.disk (hset A hA h.off.b (fun e => h.off.a e.symm)) (fun k e => hset k (hW k e) (fun g => h.off.d k g e) (fun g => h.off.c (by rw [e, g]))), ⟨(set_self ((hblk L hL h.log.apart).trans h.log.cells)).trans (by simp [lcells]), ?_, hvL⟩,
    ⟨h.off.a, (fun e => by
      rcases hfr with g | g
      · rw [g] at e; exact h.off.b e
      · have := g _ e; omega), h.off.c, fun b e1 e2 => by
      rcases hfr with g | g
      · rw [g] at e1; exact h.off.d b e1 e2
      · have := g _ e1; have := hW _ e2; omega⟩⟩, ⟨hg.os, hg.tape, hg.output, by rw [set_size]; have := hg.size; simp at this; omega, fun k hk hn => hset k hk (fun g => hn (.inr (.inr (.inr g)))) (fun g => hn (.inr (.inr (.inl g))))⟩, fun k g => ?_⟩
  · rw [List.length_append, List.map_append]
    exact row_moved hown (fun k e => Below.heap_setCell _ _ _ _ (fun g => hvL (by rw [e]; exact congrArg some g)))
  · rcases g with g | g | g | g
    · exact .inl (.inl g)
    · exact .inl (.inr (.inl g))
    · exact .inl (.inr (.inr (.inl g)))
    · rcases hfr with e | e
      · rw [e] at g; exact .inl (.inr (.inr (.inr g)))
      · exact .inr (e k g)
end Go.Proofs.Ytkiepnmbimkadaa.WL
