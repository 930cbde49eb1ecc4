/-
  Of two numbers the lesser one's bytes stand ahead of the other one's, and are no more; the bytes are as many as Size says; they are the same just if the numbers are.
-/
import Derived.Test.YtjmegjdgebmfeaaVarMore
import Derived.Test.YtjmegjdgebmfeaaPr8
namespace Go.Proofs.Ytjmegjdgebmfeaa.Pure
open Go.RowKit Go.Proofs.Ytjmegjdgebmfeaa Go.Proofs.Ytjmegjdgebmfeaa.Pr Go.Proofs.Ytjmegjdgebmfeaa.VP Go.Proofs.Ytjmegjdgebmfeaa.VF Go.Proofs.YtjmegjdgebmfeaaW.PrintWords Go.Proofs.YtjmegjdgebmfeaaW.PrintLast Go.Proofs.YtjmegjdgebmfeaaW.PrintMore

theorem VarintOrder : rivuletlaw01_VarintOrder.Pure := by
  intro a b ha hb
  have ha := wf_u64 ha
  have hb := wf_u64 hb
  refine ⟨1000, ?_⟩
  unfold rivuletlaw01_VarintOrder.f
  have hl : lt (enc a) (enc b) = decide (a < b) := by
    rcases Int.lt_trichotomy a b with h | h | h
    · rw [lt_enc ha.1 h hb.2, decide_eq_true h]
    · rw [h, lt_irrefl, decide_eq_false (by omega)]
    · rw [lt_asymm (lt_enc hb.1 h ha.2), decide_eq_false (by omega)]
  have he : ((strOfNums (enc a)).toList == (strOfNums (enc b)).toList) = (a == b) := by
    rw [Bool.eq_iff_iff]
    simp only [beq_iff_eq]
    constructor
    · intro h
      have h2 := congrArg bytesOf (toList_inj.1 h)
      rw [bytes_son (enc_by ha.1), bytes_son (enc_by hb.1)] at h2
      rcases Int.lt_trichotomy a b with g | g | g
      · have := lt_enc ha.1 g hb.2
        rw [h2, lt_irrefl] at this
        cases this
      · exact g
      · have := lt_enc hb.1 g ha.2
        rw [h2, lt_irrefl] at this
        cases this
    · rintro rfl; rfl
  rw [put_enc ha.1 ha.2 (by omega), Option.bind_some, put_enc hb.1 hb.2 (by omega), Option.bind_some, less_f, Option.bind_some, bytes_son (enc_by ha.1), bytes_son (enc_by hb.1), hl, if_pos (by simp), size_sz ha.2, size_sz hb.2, he]
  have hz : (sz a : Int) = ((strOfNums (enc a)).size : Int) := by rw [strOfNums_size, enc_length]
  by_cases h : a > b
  · rw [if_pos h, Option.bind_some, if_pos hz, if_pos (by simp)]
    rfl
  · have := sz_mono (show a ≤ b by omega)
    rw [if_neg h, Option.bind_some, Option.bind_some, if_pos (by omega), if_pos hz, if_pos (by simp)]
    rfl
end Go.Proofs.Ytjmegjdgebmfeaa.Pure
