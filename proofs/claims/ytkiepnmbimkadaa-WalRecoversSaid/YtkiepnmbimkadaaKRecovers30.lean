import Derived.Test.YtkiepnmbimkadaaKRecovers29
namespace Go.Proofs.Ytkiepnmbimkadaa.CF
open Go.RowKit Go.Proofs.Ytkiepnmbimkadaa Go.Proofs.Ytkiepnmbimkadaa.Pr Go.Proofs.Ytkiepnmbimkadaa.VP Go.Proofs.Ytkiepnmbimkadaa.VF Go.Proofs.Ytkiepnmbimkadaa.CP Go.Proofs.YtkiepnmbimkadaaW.PrintWords Go.Proofs.YtkiepnmbimkadaaW.PrintLast Go.Proofs.YtkiepnmbimkadaaW.PrintMore
theorem open_short {s x : ByteArray} (hx : x.size ≤ 65536) {p j : Nat} (hp : p ≤ s.size) (hj : j < (sealB x).length) (h : (bytesOf s).drop p = (sealB x).take j) : openS s p = (⟨#[]⟩, 0, 3) := by
  have h1 := sz_bd x.size
  have hsl := seal_length x
  have hlen : s.size - p = j := by
    rw [← size_bytes, ← List.length_drop, h, List.length_take]
    omega
  by_cases a : j < sz x.size
  · have hg : getS s p = (0, 0, 3) := by
      unfold getS
      rw [if_neg (by omega), Int.toNat_natCast, h]
      unfold sealB
      rw [List.take_append_of_le_length (by rw [enc_length]; omega), dec_short (by omega) a]
      rfl
    have hc : cutS s p = (⟨#[]⟩, 0, 3) := by
      unfold cutS
      rw [hg]
      rfl
    unfold openS
    rw [hc]
    rfl
  · have hg : getS s p = ((x.size : Int), (p : Int) + (sz x.size : Int), 0) := by
      unfold getS
      rw [if_neg (by omega), Int.toNat_natCast, h]
      unfold sealB
      rw [List.take_append, List.take_of_length_le (by rw [enc_length]; omega), dec_enc (by omega) (by omega), if_pos rfl]
    by_cases b : j - sz x.size < x.size
    · have hc : cutS s p = (⟨#[]⟩, 0, 3) := by
        unfold cutS
        rw [hg]
        simp only [if_true]
        rw [if_neg (by omega), if_pos (by omega)]
      unfold openS
      rw [hc]
      rfl
    · have hc : (cutS s p).2.2 = 0 ∧ (cutS s p).2.1 = (p : Int) + (sz x.size : Int) + (x.size : Int) := by
        unfold cutS
        rw [hg]
        simp only [if_true]
        rw [if_neg (by omega), if_neg (by omega)]
        exact ⟨rfl, rfl⟩
      unfold openS
      rw [if_pos hc.1, hc.2, if_pos (by omega)]
theorem and_mask (x : Int) {c : Nat} (hc : c < 65536) : ∃ m : Nat, Go.bits .and .i64 x (c : Int) = (m : Int) ∧ m ≤ c := by
  refine ⟨(BitVec.ofInt 64 x &&& BitVec.ofInt 64 (c : Int)).toNat, ?_, ?_⟩
  · have hle : (BitVec.ofInt 64 x &&& BitVec.ofInt 64 (c : Int)).toNat ≤ c := by
      rw [BitVec.toNat_and]
      refine Nat.le_trans Nat.and_le_right ?_
      rw [BitVec.ofInt_natCast, BitVec.toNat_ofNat]
      exact Nat.mod_le _ _
    show IntKind.i64.wrap (((BitVec.ofInt 64 x &&& BitVec.ofInt 64 (c : Int)).toNat : Nat) : Int) = _
    exact IntWalk.i64_in _ (by omega)
  · rw [BitVec.toNat_and]
    refine Nat.le_trans Nat.and_le_right ?_
    rw [BitVec.ofInt_natCast, BitVec.toNat_ofNat]
    exact Nat.mod_le _ _
theorem tmod_in {x n : Nat} (hn : 0 < n) : ∃ j : Nat, Int.tmod (x : Int) (n : Int) = (j : Int) ∧ j < n := by
  refine ⟨x % n, ?_, Nat.mod_lt _ hn⟩
  rw [Int.tmod_eq_emod_of_nonneg (by omega)]
  exact (Int.natCast_emod x n).symm
end Go.Proofs.Ytkiepnmbimkadaa.CF
