import Derived.SizedLaws
import Derived.ChangeSlices
import Derived.SliceStrings
import Derived.Test.YtkiepnmbimkadaaKRecovers46
import Derived.Test.YtkiepnmbimkadaaKRecovers15
section
namespace Go.Proofs.Ytkiepnmbimkadaa.WL
open Go.RowKit Go.Proofs.Ytkiepnmbimkadaa Go.Proofs.Ytkiepnmbimkadaa.DK Go.Proofs.Ytkiepnmbimkadaa.Pr Go.Proofs.Ytkiepnmbimkadaa.VP Go.Proofs.Ytkiepnmbimkadaa.VF Go.Proofs.Ytkiepnmbimkadaa.CF Go.Proofs.Ytkiepnmbimkadaa.WF Go.Proofs.Ytkiepnmbimkadaa.ML
attribute [local go_sem] max2_int min2_int max_two min_two
theorem tells_checked (F : Four) {r : Int} (h0 : 0 ≤ r) (h1 : r ≤ 1099511000000) (x : ByteArray) (hx : x.size ≤ 60) (u : Nat) : Tells ((F.to 0 (rowB r x)).to 1 ⟨#[]⟩) ⟨r, x, [], u⟩ := by
  have e1 : ((F.to 0 (rowB r x)).to 1 ⟨#[]⟩).at 1 = ⟨#[]⟩ := by rw [at_to, if_pos (by omega)]
  have e0 : ((F.to 0 (rowB r x)).to 1 ⟨#[]⟩).at 0 = rowB r x := by rw [at_to, if_neg (by omega), at_to, if_pos (by omega)]
  exact Tells.whole h0 h1 (by rw [e0]; exact head_row h0 (by omega) x (by omega)) (fun y hy => by simp at hy) e1 (by rw [e1]; decide)
end Go.Proofs.Ytkiepnmbimkadaa.WL
namespace Go.Proofs.Ytkiepnmbimkadaa.VF
open Go.RowKit
end Go.Proofs.Ytkiepnmbimkadaa.VF
end
section
namespace Go.Proofs.Ytkiepnmbimkadaa.WL
open Go.RowKit Go.Proofs.Ytkiepnmbimkadaa Go.Proofs.Ytkiepnmbimkadaa.DK Go.Proofs.Ytkiepnmbimkadaa.Pr Go.Proofs.Ytkiepnmbimkadaa.VP Go.Proofs.Ytkiepnmbimkadaa.VF Go.Proofs.Ytkiepnmbimkadaa.CF Go.Proofs.Ytkiepnmbimkadaa.WF Go.Proofs.Ytkiepnmbimkadaa.ML
attribute [local go_sem] max2_int min2_int max_two min_two
theorem row_foot (N n : Nat) (v : Value) (e : TypeId) (size : Nat) (xs : List Value) : Foot (InV v) (fun w => w.ownsRow N e size v n xs) := ⟨fun w h k g => (h.lt k g).2, fun w w2 h hk => row_moved h hk⟩
theorem grown_keeps {w w5 : World} {o : Obj} {v : Value} (hg : (w.alloc o).grownBy w5 v.ownBlock) : KeepsF w w5 (InV v) :=
  ⟨hg.os, hg.tape, hg.output, by have := hg.size; simp at this; omega, fun k hk hn => (hg.block k (by simp; omega) (fun e => hn e.symm)).trans (Below.heap_alloc _ _ _ hk)⟩
structure Only (st : St) (xs : List ByteArray) : Prop where
  sound : Sound xs.length st
  zero : st.n.at 0 = ⟨#[]⟩
  one : st.n.at 1 = textS 0 xs
  len : xs.length ≤ 20
  small : ∀ x ∈ xs, x.size ≤ 60
theorem Only.size {st : St} {xs : List ByteArray} (h : Only st xs) : (textS 0 xs).size ≤ 1640 := by
  have h1 := textS_size 0 xs (b := 60) h.small
  have h2 := h.len
  have : xs.length * (60 + 22) ≤ 20 * 82 := Nat.mul_le_mul h2 (Nat.le_refl _)
  omega
theorem Only.append {st : St} {xs : List ByteArray} (h : Only st xs) (hl : xs.length < 20) {x : ByteArray} (hx : x.size ≤ 60) : Only ⟨st.n.to 1 (st.n.at 1 ++ rowB 0 x), st.k, st.l ++ [⟨false, 1, rowB 0 x⟩]⟩ (xs ++ [x]) := by
  have hz := h.size
  have hr := (rowB_size 0 x).2
  have ha : appendS st.n 1 (rowB 0 x) = 0 := app_yes (by omega) (by rw [h.one]; omega)
  have hs := h.sound.append 1 (rowB 0 x)
  unfold appendT at hs
  rw [if_pos ha] at hs
  refine ⟨by rw [List.length_append]; exact hs, ?_, ?_, by rw [List.length_append]; show xs.length + 1 ≤ _; omega, ?_⟩
  · show (st.n.to 1 _).at 0 = _
    rw [at_to, if_neg (by omega)]
    exact h.zero
  · show (st.n.to 1 _).at 1 = _
    rw [at_to, if_pos (by omega), h.one, textS_snoc]
  · intro y hy
    rcases List.mem_append.1 hy with hy | hy
    · exact h.small y hy
    · simp at hy
      subst hy
      exact hx
theorem Only.zero4 : Only ⟨zero4, zero4, []⟩ [] := ⟨Sound.zero 0, rfl, rfl, Nat.zero_le _, fun x hx => by simp at hx⟩
end Go.Proofs.Ytkiepnmbimkadaa.WL
namespace Go.Proofs.Ytkiepnmbimkadaa.VF
open Go.RowKit
end Go.Proofs.Ytkiepnmbimkadaa.VF
end
