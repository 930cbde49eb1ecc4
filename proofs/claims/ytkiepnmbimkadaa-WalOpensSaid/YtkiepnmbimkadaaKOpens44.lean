import Derived.Test.YtkiepnmbimkadaaKOpens41
namespace Go.Proofs.Ytkiepnmbimkadaa.WL
open Go.RowKit Go.Proofs.Ytkiepnmbimkadaa Go.Proofs.Ytkiepnmbimkadaa.DK Go.Proofs.Ytkiepnmbimkadaa.Pr Go.Proofs.Ytkiepnmbimkadaa.VP Go.Proofs.Ytkiepnmbimkadaa.VF Go.Proofs.Ytkiepnmbimkadaa.CF Go.Proofs.Ytkiepnmbimkadaa.WF
theorem Mid.rputs {T : TypeId} {w w1 w2 : World} {A : Nat} {W : Value} {L : Nat} {V W1 V1 : Value} {st st2 : St} {s : LSt} (h : Mid ref T w w1 A W L V W1 V1 st s) (hq : RPuts w1 w2 A W1 st2.k st2.l) : ∃ W2, Mid ref T w w2 A W L V W2 V1 st2 s := by
  obtain ⟨W2, hD, hk, hW⟩ := hq
  exact ⟨W2, h.to (Mid.disk (st2 := st2) h.1 hD hk hW)⟩
theorem PL.grown {K : Kind} {T : TypeId} {w w5 : World} {A : Nat} {W : Value} {L : Nat} {V v : Value} {st : St} {s : LSt} {x : ByteArray} (h : PL K T w A W L V st s) (hg : (w.alloc (.cells #[.string x] 9)).grownBy w5 V.ownBlock) (hown : w5.ownsRow 0 9 1 v (s.l.length + 1) (s.l.map Value.string ++ [.string x]))
    (hat : v.ownBlock = V.ownBlock ∨ v.ownBlock = some (w.alloc (.cells #[.string x] 9)).heap.size) : Mid K T w (w5.setCell ⟨L, 3, none⟩ v) A W L V W v st ⟨s.round, s.state, s.l ++ [x], s.sure⟩ := by
  have hA := K.lt h.disk
  have hL := h.log.lt
  have hW := K.row h.disk
  have hVl := fun k e => (h.log.row.lt k e).2
  have hvL : v.ownBlock ≠ some L := fun e => by
    rcases hat with g | g
    · rw [g] at e; exact h.log.apart e
    · rw [g] at e; simp at e; omega
  have hblk : ∀ k, k < w.heap.size → V.ownBlock ≠ some k → w5.heap[k]? = w.heap[k]? := fun k hk hn =>
    (hg.block k (by simp; omega) (fun e => hn e.symm)).trans (Below.heap_alloc _ _ _ hk)
  have hset : ∀ k, k < w.heap.size → V.ownBlock ≠ some k → k ≠ L → (w5.setCell ⟨L, 3, none⟩ v).heap[k]? = w.heap[k]? := fun k hk hn hkL => (Below.heap_setCell _ _ _ _ hkL).trans (hblk k hk hn)
  have hfr : v.ownBlock = V.ownBlock ∨ ∀ b, v.ownBlock = some b → w.heap.size ≤ b := hat.imp id fun g b e => by
    rw [g] at e; simp at e; omega
  refine ⟨⟨K.moved h.disk (hset A hA h.off.b (fun e => h.off.a e.symm)) (fun k e => hset k (hW k e) (fun g => h.off.d k g e) (fun g => h.off.c (by rw [e, g]))), ⟨(set_self ((hblk L hL h.log.apart).trans h.log.cells)).trans (by simp [lcells]), ?_, hvL⟩,
    ⟨h.off.a, (fun e => by
      rcases hfr with g | g
      · rw [g] at e; exact h.off.b e
      · have := g _ e; omega), h.off.c, fun b e1 e2 => by
      rcases hfr with g | g
      · rw [g] at e1; exact h.off.d b e1 e2
      · have := g _ e1; have := hW _ e2; omega⟩⟩, ⟨hg.os, hg.tape, hg.output, by rw [set_size]; have := hg.size; simp at this; omega, fun k hk hn => hset k hk (fun g => hn (.inr (.inr (.inr g)))) (fun g => hn (.inr (.inr (.inl g))))⟩, fun k g => ?_⟩
  · rw [List.length_append, List.map_append]
    exact row_moved hown (fun k e => Below.heap_setCell _ _ _ _ (fun g => hvL (by rw [e]; exact congrArg some g)))
  · rcases g with g | g | g | g
    · exact .inl (.inl g)
    · exact .inl (.inr (.inl g))
    · exact .inl (.inr (.inr (.inl g)))
    · rcases hfr with e | e
      · rw [e] at g; exact .inl (.inr (.inr (.inr g)))
      · exact .inr (e k g)
set_option maxHeartbeats 2000000 in
theorem rlsync_walk {w : World} {A : Nat} {W : Value} {L : Nat} {V : Value} {st : St} {s : LSt} (h : PL ref 84 w A W L V st s) {b : Nat} (hs : Sound b st) (hb : b ≤ 1000) (hl : s.l.length ≤ 1000000) : Calls Try.prog 28 #[.pointer (some ⟨L, 0, none⟩)] w fun e w2 =>
    e = .returned (.tuple #[]) ∧ Step ref 84 w w2 A W L V (synced st) s.synced := by
  have c0 : w.cell? ⟨L, 0, none⟩ = some (.pointer (some ⟨A, 0, none⟩)) := h.log.cell 0
  have hsy := rsync_walk (show RAt w A W st.k st.l from h.disk) hs hb
  obtain ⟨vo, vc, rfl⟩ := own_form h.log.row
  clear hs
  go_enter Try.func28, Try.ntmps28
  go_wp2_with (first | (go_at_call 51; (with_reducible refine hsy.mono ?_); rintro e w2 ⟨rfl, hq, hk⟩
                        have hm := Mid.disk (K := ref) (st2 := synced st) (W2 := .slice none 0 0) h hq hk (.inr fun b e => by rw [nil_own] at e; cases e)
                        have d3 : w2.cell? ⟨L, 3, none⟩ = some (.slice vo s.l.length vc) := hm.1.log.cell 3
                        have d4 : w2.cell? ⟨L, 4, none⟩ = some (.int .i64 s.sure) := hm.1.log.cell 4
                        have f4 : w2.frozen? ⟨L, 4, none⟩ = false := hm.1.log.frozen 4
                        clear hq hk))
  go_returns
  exact ⟨rfl, (hm.to (hm.1.stored (s2 := s.synced) (V2 := .slice vo s.l.length vc) ((KeepsF.refl _ _).setCell (F := fun k => k = L) (.inl rfl) _ _) ((set_self hm.1.log.cells).trans (by simp [lcells, LSt.synced])) (hm.1.log.row.kept (row := some L) ⟨rfl, rfl, rfl, by simp [World.setCell], fun j _ hj => Below.heap_setCell _ _ _ _ (fun e => hj (by rw [e]))⟩ (.inr hm.1.log.apart)) (.inl rfl))).step⟩
end Go.Proofs.Ytkiepnmbimkadaa.WL
