/-
  The bytes of a number, how many they are, the bytes of a text, and which text is ahead are what the document says: for every number and every two texts (cut to 300 bytes).
-/
import Derived.Test.YtjmegjdgebmfeaaVarMore
import Derived.Test.YtjmegjdgebmfeaaPr3
namespace Go.Proofs.Ytjmegjdgebmfeaa.Pure
open Go.RowKit Go.Proofs.Ytjmegjdgebmfeaa Go.Proofs.Ytjmegjdgebmfeaa.Pr Go.Proofs.Ytjmegjdgebmfeaa.VP Go.Proofs.Ytjmegjdgebmfeaa.VF Go.Proofs.YtjmegjdgebmfeaaW.PrintWords Go.Proofs.YtjmegjdgebmfeaaW.PrintLast Go.Proofs.YtjmegjdgebmfeaaW.PrintMore

theorem VarintPuts : rivuletlaw01_VarintPuts.Pure := by
  intro n s t hn hs ht
  have hn := wf_u64 hn
  refine ⟨1000, ?_⟩
  unfold rivuletlaw01_VarintPuts.f
  have m1 := mn_bd (a := (s.size : Int)) (b := 300) (by omega) (by omega)
  have m2 := mn_bd (a := (t.size : Int)) (b := 300) (by omega) (by omega)
  have z1 := cut_size s (mn s.size 300)
  have z2 := cut_size t (mn t.size 300)
  rw [if_pos m1.1, if_pos m1.2.1, if_pos m2.1, if_pos m2.2.1]
  generalize s.extract 0 (mn s.size 300).toNat = a at *
  generalize t.extract 0 (mn t.size 300).toNat = b at *
  rw [put_enc hn.1 hn.2 (by omega), Option.bind_some, rput_enc hn.1 hn.2 (by omega), Option.bind_some, if_pos rfl, size_sz hn.2, Option.bind_some, Option.bind_some, if_pos (by rw [strOfNums_size, enc_length]),
    text_enc (by omega) (by omega), Option.bind_some, rtext_enc (by omega) (by omega), Option.bind_some, if_pos rfl, less_f, Option.bind_some, rless_lt (by omega) (by omega) (by omega), Option.bind_some, if_pos (by simp)]
  rfl
end Go.Proofs.Ytjmegjdgebmfeaa.Pure
