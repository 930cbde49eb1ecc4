/-
  The sum of two rows of bytes is that of the first one that goes on with the second one (texts cut to 300 bytes).
-/
import Derived.Test.YthincnfcekcdaaaChkFns
import Derived.Test.YthincnfcekcdaaaChkFixed
import Derived.Test.YthincnfcekcdaaaPr3
import Derived.Test.YthincnfcekcdaaaPr9
namespace Go.Proofs.Ythincnfcekcdaaa.Pure
open Go.RowKit Go.Proofs.Ythincnfcekcdaaa Go.Proofs.Ythincnfcekcdaaa.Pr Go.Proofs.Ythincnfcekcdaaa.VP Go.Proofs.Ythincnfcekcdaaa.VF Go.Proofs.Ythincnfcekcdaaa.CP Go.Proofs.Ythincnfcekcdaaa.CF Go.Proofs.YthincnfcekcdaaaW.PrintWords Go.Proofs.YthincnfcekcdaaaW.PrintLast Go.Proofs.YthincnfcekcdaaaW.PrintMore

theorem nb_append (s t : ByteArray) : nb (s ++ t) = nb s ++ nb t := by simp [nb]
theorem CheckJoins : rivuletlaw02_CheckJoins.Pure := by
  intro s t hs ht
  refine ⟨1000, ?_⟩
  unfold rivuletlaw02_CheckJoins.f
  have m1 := mn_bd (a := (s.size : Int)) (b := 300) (by omega) (by omega)
  have m2 := mn_bd (a := (t.size : Int)) (b := 300) (by omega) (by omega)
  have z1 := cut_size s (mn s.size 300)
  have z2 := cut_size t (mn t.size 300)
  rw [if_pos m1.1, if_pos m1.2.1, if_pos m2.1, if_pos m2.2.1]
  generalize s.extract 0 (mn s.size 300).toNat = a at *
  generalize t.extract 0 (mn t.size 300).toNat = b at *
  have h0 : nb (⟨#[]⟩ : ByteArray) = [] := rfl
  rw [sum_f (by omega), Option.bind_some, add_f (add_lt _ _) (by omega), Option.bind_some, if_pos (by omega), sum_f (by simp only [ByteArray.size_append]; omega), Option.bind_some, nb_append, add_add _ _ (nb_bn a), if_pos rfl, Option.bind_some, add_f (add_lt _ _) (by decide), Option.bind_some, h0, add_nil (add_lt _ _), if_pos rfl, fixed_f (by omega)]
  rfl
end Go.Proofs.Ythincnfcekcdaaa.Pure
