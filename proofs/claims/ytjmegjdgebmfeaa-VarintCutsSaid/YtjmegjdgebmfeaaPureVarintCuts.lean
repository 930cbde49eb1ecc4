/-
  A number's bytes without their end are no number's, a text's bytes without their end no text's: Get and Cut say that they are too short (texts cut to 300 bytes).
-/
import Derived.Test.YtjmegjdgebmfeaaVarMore
import Derived.Test.YtjmegjdgebmfeaaPr10
namespace Go.Proofs.Ytjmegjdgebmfeaa.Pure
open Go.RowKit Go.Proofs.Ytjmegjdgebmfeaa Go.Proofs.Ytjmegjdgebmfeaa.Pr Go.Proofs.Ytjmegjdgebmfeaa.VP Go.Proofs.Ytjmegjdgebmfeaa.VF Go.Proofs.YtjmegjdgebmfeaaW.PrintWords Go.Proofs.YtjmegjdgebmfeaaW.PrintLast Go.Proofs.YtjmegjdgebmfeaaW.PrintMore

theorem and_nonneg (x : Int) : 0 ≤ Go.bits .and .i64 x 65535 := by
  have h := (bits_within .and .i64 x 65535)
  have e : ∃ m : Nat, Go.bits .and .i64 x 65535 = IntKind.i64.wrap (m : Int) ∧ m ≤ 65535 := by
    refine ⟨(BitVec.ofInt 64 x &&& BitVec.ofInt 64 65535).toNat, rfl, ?_⟩
    rw [BitVec.toNat_and]
    exact Nat.le_trans Nat.and_le_right (by decide)
  obtain ⟨m, e, hm⟩ := e
  rw [e, IntWalk.i64_in _ (by omega)]
  omega
theorem tmod_bd {x : Int} {n : Nat} (hx : 0 ≤ x) (hn : 0 < n) : ∃ j : Nat, Int.tmod x n = j ∧ j < n := by
  rw [Int.tmod_eq_emod_of_nonneg hx]
  have h0 := Int.emod_nonneg x (show (n : Int) ≠ 0 by omega)
  have h1 := Int.emod_lt_of_pos x (show (0 : Int) < n by omega)
  exact ⟨(x % n).toNat, by omega, by omega⟩
theorem VarintCuts : rivuletlaw01_VarintCuts.Pure := by
  intro n s x hn hs _
  have hn := wf_u64 hn
  refine ⟨1000, ?_⟩
  unfold rivuletlaw01_VarintCuts.f
  have m1 := mn_bd (a := (s.size : Int)) (b := 300) (by omega) (by omega)
  have z1 := cut_size s (mn s.size 300)
  rw [if_pos m1.1, if_pos m1.2.1]
  generalize s.extract 0 (mn s.size 300).toNat = a at *
  have hx := and_nonneg x
  have sn := sz_bd n
  have sa := sz_bd a.size
  have ez : (strOfNums (enc n)).size = sz n := by rw [strOfNums_size, enc_length]
  have et : (strOfNums (enc a.size) ++ a).size = sz a.size + a.size := by simp [strOfNums_size, enc_length]
  obtain ⟨i, hi, hi1⟩ := tmod_bd hx (show 0 < sz n by omega)
  obtain ⟨j, hj, hj1⟩ := tmod_bd hx (show 0 < sz a.size + a.size by omega)
  rw [put_enc hn.1 hn.2 (by omega), Option.bind_some, text_enc (by omega) (by omega), Option.bind_some, if_neg (by omega)]
  simp only [rivuletlaw01_VarintCuts.j0]
  rw [if_neg (by rw [et]; simp; omega), if_neg (by omega), ez, hi, if_pos (by omega), if_pos (by omega), get_getS (by simp; omega) 0 (by omega), Option.bind_some, if_neg (by rw [et]; omega), et, hj, if_pos (by omega), if_pos (by omega), cut_cutS (by simp; omega) 0 (by omega), Option.bind_some]
  have g1 : (getS ((strOfNums (enc n)).extract 0 (i : Int).toNat) 0).2.2 = 3 := by
    unfold getS
    rw [if_neg (by omega)]
    have : dec ((bytesOf ((strOfNums (enc n)).extract 0 (i : Int).toNat)).drop (0 : Int).toNat) = (0, 0, 3) := by
      rw [bytes_extract, bytes_son (enc_by hn.1)]
      simpa using dec_short hn.1 hi1
    rw [this]
    rfl
  have g2 : (cutS ((strOfNums (enc a.size) ++ a).extract 0 (j : Int).toNat) 0).2.2 = 3 := by
    have hb : bytesOf ((strOfNums (enc a.size) ++ a).extract 0 (j : Int).toNat) = (enc a.size ++ bytesOf a).take j := by
      rw [bytes_extract, bytes_append, bytes_son (enc_by (by omega))]
      simp
    have hz : ((strOfNums (enc a.size) ++ a).extract 0 (j : Int).toNat).size = j := by
      rw [← size_bytes, hb, List.length_take, List.length_append, enc_length, size_bytes]
      omega
    have hg : getS ((strOfNums (enc a.size) ++ a).extract 0 (j : Int).toNat) 0 = if (dec ((enc a.size ++ bytesOf a).take j)).2.2 = 0 then ((dec ((enc a.size ++ bytesOf a).take j)).1, (0 : Int) + (dec ((enc a.size ++ bytesOf a).take j)).2.1, 0) else (0, 0, (dec ((enc a.size ++ bytesOf a).take j)).2.2) := by
      unfold getS
      rw [if_neg (by omega), hb, show (0 : Int).toNat = 0 from rfl, List.drop_zero]
    by_cases k : j < sz a.size
    · have h1 : dec ((enc a.size ++ bytesOf a).take j) = (0, 0, 3) := by
        rw [List.take_append_of_le_length (by rw [enc_length]; omega)]
        exact dec_short (by omega) k
      rw [h1] at hg
      unfold cutS
      rw [hg]
      rfl
    · have h1 : dec ((enc a.size ++ bytesOf a).take j) = ((a.size : Int), sz a.size, 0) := by
        rw [List.take_append, List.take_of_length_le (by rw [enc_length]; omega)]
        exact dec_enc (by omega) (by omega) _
      rw [h1] at hg
      have hg2 : getS ((strOfNums (enc a.size) ++ a).extract 0 (j : Int).toNat) 0 = ((a.size : Int), (0 : Int) + (sz a.size : Int), 0) := hg
      unfold cutS
      rw [hg2, hz, if_pos rfl, if_neg (by simp only []; omega), if_pos (by simp only []; omega)]
  rw [if_pos g1, if_pos g2]
  rfl
end Go.Proofs.Ytjmegjdgebmfeaa.Pure
