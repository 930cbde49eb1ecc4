import Derived.Test.YtkiepnmbimkadaaKChecks29
namespace Go.Proofs.Ytkiepnmbimkadaa.CF
open Go.RowKit Go.Proofs.Ytkiepnmbimkadaa Go.Proofs.Ytkiepnmbimkadaa.Pr Go.Proofs.Ytkiepnmbimkadaa.VP Go.Proofs.Ytkiepnmbimkadaa.VF Go.Proofs.Ytkiepnmbimkadaa.CP Go.Proofs.YtkiepnmbimkadaaW.PrintWords Go.Proofs.YtkiepnmbimkadaaW.PrintLast Go.Proofs.YtkiepnmbimkadaaW.PrintMore
theorem open_short {s x : ByteArray} (hx : x.size ≤ 65536) {p j : Nat} (hp : p ≤ s.size) (hj : j < (sealB x).length) (h : (bytesOf s).drop p = (sealB x).take j) : openS s p = (⟨#[]⟩, 0, 3) := by
  have h1 := sz_bd x.size
  have hsl := seal_length x
  have hlen : s.size - p = j := by
    rw [← size_bytes, ← List.length_drop, h, List.length_take]
    omega
  by_cases a : j < sz x.size
  · have hg : getS s p = (0, 0, 3) := by
      unfold getS
      rw [if_neg (by omega), Int.toNat_natCast, h]
      unfold sealB
      rw [List.take_append_of_le_length (by rw [enc_length]; omega), dec_short (by omega) a]
      rfl
    have hc : cutS s p = (⟨#[]⟩, 0, 3) := by
      unfold cutS
      rw [hg]
      rfl
    unfold openS
    rw [hc]
    rfl
  · have hg : getS s p = ((x.size : Int), (p : Int) + (sz x.size : Int), 0) := by
      unfold getS
      rw [if_neg (by omega), Int.toNat_natCast, h]
      unfold sealB
      rw [List.take_append, List.take_of_length_le (by rw [enc_length]; omega), dec_enc (by omega) (by omega), if_pos rfl]
    by_cases b : j - sz x.size < x.size
    · have hc : cutS s p = (⟨#[]⟩, 0, 3) := by
        unfold cutS
        rw [hg]
        simp only [if_true]
        rw [if_neg (by omega), if_pos (by omega)]
      unfold openS
      rw [hc]
      rfl
    · have hc : (cutS s p).2.2 = 0 ∧ (cutS s p).2.1 = (p : Int) + (sz x.size : Int) + (x.size : Int) := by
        unfold cutS
        rw [hg]
        simp only [if_true]
        rw [if_neg (by omega), if_neg (by omega)]
        exact ⟨rfl, rfl⟩
      unfold openS
      rw [if_pos hc.1, hc.2, if_pos (by omega)]
end Go.Proofs.Ytkiepnmbimkadaa.CF
