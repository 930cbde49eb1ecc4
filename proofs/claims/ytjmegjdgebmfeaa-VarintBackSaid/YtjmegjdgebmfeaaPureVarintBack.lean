/-
  What is put is got, whatever stands ahead and behind; what is got of any bytes, put, is the bytes that it was got of (texts cut to 300 bytes).
-/
import Derived.Test.YtjmegjdgebmfeaaVarMore
import Derived.Test.YtjmegjdgebmfeaaPr7
namespace Go.Proofs.Ytjmegjdgebmfeaa.Pure
open Go.RowKit Go.Proofs.Ytjmegjdgebmfeaa Go.Proofs.Ytjmegjdgebmfeaa.Pr Go.Proofs.Ytjmegjdgebmfeaa.VP Go.Proofs.Ytjmegjdgebmfeaa.VF Go.Proofs.YtjmegjdgebmfeaaW.PrintWords Go.Proofs.YtjmegjdgebmfeaaW.PrintLast Go.Proofs.YtjmegjdgebmfeaaW.PrintMore

theorem VarintBack : rivuletlaw01_VarintBack.Pure := by
  intro n s t hn hs ht
  have hn := wf_u64 hn
  refine ⟨1000, ?_⟩
  unfold rivuletlaw01_VarintBack.f
  have m1 := mn_bd (a := (s.size : Int)) (b := 300) (by omega) (by omega)
  have m2 := mn_bd (a := (t.size : Int)) (b := 300) (by omega) (by omega)
  have z1 := cut_size s (mn s.size 300)
  have z2 := cut_size t (mn t.size 300)
  rw [if_pos m1.1, if_pos m1.2.1, if_pos m2.1, if_pos m2.2.1]
  generalize s.extract 0 (mn s.size 300).toNat = a at *
  generalize t.extract 0 (mn t.size 300).toNat = b at *
  have zn := sz_bd n
  have ez : (strOfNums (enc n)).size = sz n := by rw [strOfNums_size, enc_length]
  have hg : getS (a ++ strOfNums (enc n) ++ b) (a.size : Int) = (n, (a.size : Int) + (sz n : Int), 0) := by
    unfold getS
    rw [if_neg (by simp only [ByteArray.size_append]; omega), bytes_append, bytes_append, bytes_son (enc_by hn.1), List.append_assoc, Int.toNat_natCast, List.drop_append_of_le_length (by rw [size_bytes]; omega), List.drop_of_length_le (by rw [size_bytes]; omega), List.nil_append, dec_enc hn.1 hn.2, if_pos rfl]
  rw [put_enc hn.1 hn.2 (by omega), Option.bind_some, if_pos (by omega), if_pos (by simp only [ByteArray.size_append]; omega), get_getS (by simp only [ByteArray.size_append]; omega) _ (by omega), Option.bind_some, hg, if_pos rfl, if_pos rfl, ez, w64 (by omega)]
  simp only [rivuletlaw01_VarintBack.j0]
  rw [if_neg (by simp), get_getS (by omega) 0 (by omega), Option.bind_some]
  rcases getS_cases b 0 with ⟨he, g0, g1⟩ | ⟨m, p, hp, e, h1, h2, h3, h4⟩
  · rw [if_neg he, if_pos g0, if_pos g1]
    rfl
  · obtain rfl : p = 0 := by omega
    rw [Nat.zero_add] at e h2
    rw [List.drop_zero] at h1
    have zk := sz_bd m
    rw [e]
    simp only [if_true]
    rw [if_pos (by omega), if_pos (by omega), put_enc h3 h4 (by omega), Option.bind_some, if_pos (by omega), if_pos (by
      rw [toList_inj]
      apply bytes_inj
      rw [bytes_son (enc_by h3), bytes_extract, List.drop_zero, Nat.sub_zero, Int.toNat_natCast, h1])]
    rfl
end Go.Proofs.Ytjmegjdgebmfeaa.Pure
