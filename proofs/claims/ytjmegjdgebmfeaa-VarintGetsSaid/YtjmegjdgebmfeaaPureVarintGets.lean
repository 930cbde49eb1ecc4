/-
  The number and the text at any place of any bytes (cut to 300), or what is wrong, are what the document says.
-/
import Derived.Test.YtjmegjdgebmfeaaVarMore
import Derived.Test.YtjmegjdgebmfeaaPr6
namespace Go.Proofs.Ytjmegjdgebmfeaa.Pure
open Go.RowKit Go.Proofs.Ytjmegjdgebmfeaa Go.Proofs.Ytjmegjdgebmfeaa.Pr Go.Proofs.Ytjmegjdgebmfeaa.VP Go.Proofs.Ytjmegjdgebmfeaa.VF Go.Proofs.YtjmegjdgebmfeaaW.PrintWords Go.Proofs.YtjmegjdgebmfeaaW.PrintLast Go.Proofs.YtjmegjdgebmfeaaW.PrintMore

theorem VarintGets : rivuletlaw01_VarintGets.Pure := by
  intro s a hs _
  refine ⟨1000, ?_⟩
  unfold rivuletlaw01_VarintGets.f
  have m1 := mn_bd (a := (s.size : Int)) (b := 300) (by omega) (by omega)
  have z1 := cut_size s (mn s.size 300)
  rw [if_pos m1.1, if_pos m1.2.1]
  generalize s.extract 0 (mn s.size 300).toNat = t at *
  rw [get_getS (by omega) a (by omega), Option.bind_some, rget_getS (by omega) a (by omega), Option.bind_some, cut_cutS (by omega) a (by omega), Option.bind_some, rcut_cutS (by omega) a (by omega), Option.bind_some,
    if_pos rfl, if_pos rfl, if_pos rfl, if_pos rfl, if_pos rfl, if_pos rfl]
  rfl
end Go.Proofs.Ytjmegjdgebmfeaa.Pure
