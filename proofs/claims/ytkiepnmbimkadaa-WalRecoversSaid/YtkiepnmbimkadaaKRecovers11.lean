import Derived.Deep.Cut
import Derived.Deep.RegionHeld3
import Derived.Maps.AppendAt
import Derived.Test.YtkiepnmbimkadaaKRecovers10
namespace Go.Proofs.Ytkiepnmbimkadaa.DK
open Go.RowKit Go.Proofs.Ytkiepnmbimkadaa
attribute [local go_sem] max2_int min2_int max_two min_two
theorem RAt.off {w w2 : World} {A B : Nat} {W V : Value} {k : Four} {l : List Wr} (ho : RAt w B V k l) (hK : Keeps w w2 A W) (h : Off B V A W) : RAt w2 B V k l := by
  refine ⟨(hK.block B ho.lt h.a h.c).trans ho.cells, ⟨ho.row.1, ?_⟩, ho.apart⟩
  rcases ho.row.2 with e | ⟨g, cap, cur, rfl, hb, hg, r⟩
  · exact .inl e
  · refine .inr ⟨g, cap, cur, rfl, hb, ?_, r⟩
    have hl : g < w.heap.size := (Array.getElem?_eq_some_iff.1 hg).1
    rw [hK.block g hl (fun e => h.b (by rw [← e]; rfl)) (h.d g rfl)]
    exact hg
theorem RPuts.of {w w1 w2 : World} {B : Nat} {V : Value} {k : Four} {l : List Wr} (h1 : Keeps w w1 B V) (hp : RPuts w1 w2 B V k l) : RPuts w w2 B V k l := by
  obtain ⟨V2, ha, hK, hw⟩ := hp
  exact ⟨V2, ha, hK.after h1, hw.imp id fun f b hb => Nat.le_trans h1.size (f b hb)⟩
theorem RPuts.nil {w w2 : World} {B : Nat} {V : Value} {k : Four} {l : List Wr} (ha : RAt w2 B (.slice none 0 0) k l) (hK : Keeps w w2 B V) : RPuts w w2 B V k l := ⟨_, ha, hK, .inr fun b hb => by simp [Value.ownBlock] at hb⟩
theorem RPuts.same {w w2 : World} {B : Nat} {V : Value} {k : Four} {l : List Wr} (ha : RAt w2 B V k l) (hK : Keeps w w2 B V) : RPuts w w2 B V k l := ⟨_, ha, hK, .inl rfl⟩
end Go.Proofs.Ytkiepnmbimkadaa.DK
