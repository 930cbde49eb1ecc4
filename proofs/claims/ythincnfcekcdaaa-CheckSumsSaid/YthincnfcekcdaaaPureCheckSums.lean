/-
  The sum of any bytes, a sum that goes on, and what is sealed, are what the document says (texts cut to 500 bytes).
-/
import Derived.Test.YthincnfcekcdaaaChkFns
import Derived.Test.YthincnfcekcdaaaChkFixed
import Derived.Test.YthincnfcekcdaaaPr3
import Derived.Test.YthincnfcekcdaaaPr4
namespace Go.Proofs.Ythincnfcekcdaaa.Pure
open Go.RowKit Go.Proofs.Ythincnfcekcdaaa Go.Proofs.Ythincnfcekcdaaa.Pr Go.Proofs.Ythincnfcekcdaaa.VP Go.Proofs.Ythincnfcekcdaaa.VF Go.Proofs.Ythincnfcekcdaaa.CP Go.Proofs.Ythincnfcekcdaaa.CF Go.Proofs.YthincnfcekcdaaaW.PrintWords Go.Proofs.YthincnfcekcdaaaW.PrintLast Go.Proofs.YthincnfcekcdaaaW.PrintMore

theorem wf_u32 {n : Int} (h : (Lit.int .u32 n).wf = true) : 0 ≤ n ∧ n ≤ 4294967295 := by
  simp [Lit.wf, IntKind.min, IntKind.max, IntKind.bits, IntKind.signed] at h
  omega
theorem CheckSums : rivuletlaw02_CheckSums.Pure := by
  intro s n hs hn
  have hn := wf_u32 hn
  refine ⟨1000, ?_⟩
  unfold rivuletlaw02_CheckSums.f
  have m1 := mn_bd (a := (s.size : Int)) (b := 500) (by omega) (by omega)
  have z1 := cut_size s (mn s.size 500)
  rw [if_pos m1.1, if_pos m1.2.1]
  generalize s.extract 0 (mn s.size 500).toNat = a at *
  obtain ⟨m, rfl⟩ := Int.eq_ofNat_of_zero_le hn.1
  rw [sum_f (by omega), Option.bind_some, rsum_f (by omega) (by omega), Option.bind_some, if_pos rfl, add_f (by omega) (by omega), Option.bind_some, radd_f (by omega) (by omega) (by omega), Option.bind_some, if_pos rfl, seal_f (by omega) (by omega), Option.bind_some, rseal_f (by omega) (by omega), Option.bind_some, if_pos rfl, fixed_f (by omega)]
  rfl
end Go.Proofs.Ythincnfcekcdaaa.Pure
