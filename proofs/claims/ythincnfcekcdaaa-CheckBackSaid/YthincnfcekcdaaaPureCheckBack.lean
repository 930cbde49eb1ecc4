/-
  What is sealed is opened, whatever stands ahead and behind; what is opened of any bytes, sealed, is the bytes of which it was (texts cut to 300 bytes).
-/
import Derived.Test.YthincnfcekcdaaaChkFns
import Derived.Test.YthincnfcekcdaaaChkFixed
import Derived.Test.YthincnfcekcdaaaPr3
import Derived.Test.YthincnfcekcdaaaPr8
namespace Go.Proofs.Ythincnfcekcdaaa.Pure
open Go.RowKit Go.Proofs.Ythincnfcekcdaaa Go.Proofs.Ythincnfcekcdaaa.Pr Go.Proofs.Ythincnfcekcdaaa.VP Go.Proofs.Ythincnfcekcdaaa.VF Go.Proofs.Ythincnfcekcdaaa.CP Go.Proofs.Ythincnfcekcdaaa.CF Go.Proofs.YthincnfcekcdaaaW.PrintWords Go.Proofs.YthincnfcekcdaaaW.PrintLast Go.Proofs.YthincnfcekcdaaaW.PrintMore

theorem CheckBack : rivuletlaw02_CheckBack.Pure := by
  intro s u t hs hu ht
  refine ⟨1000, ?_⟩
  unfold rivuletlaw02_CheckBack.f
  have m1 := mn_bd (a := (s.size : Int)) (b := 300) (by omega) (by omega)
  have m2 := mn_bd (a := (u.size : Int)) (b := 300) (by omega) (by omega)
  have m3 := mn_bd (a := (t.size : Int)) (b := 300) (by omega) (by omega)
  have z1 := cut_size s (mn s.size 300)
  have z2 := cut_size u (mn u.size 300)
  have z3 := cut_size t (mn t.size 300)
  rw [if_pos m1.1, if_pos m1.2.1, if_pos m2.1, if_pos m2.2.1, if_pos m3.1, if_pos m3.2.1]
  generalize s.extract 0 (mn s.size 300).toNat = a at *
  generalize u.extract 0 (mn u.size 300).toNat = b at *
  generalize t.extract 0 (mn t.size 300).toNat = c at *
  have hz := sz_bd a.size
  have hl := seal_length a
  have hsz : (strOfNums (sealB a)).size = (sealB a).length := strOfNums_size _
  have ho : openS (b ++ strOfNums (sealB a) ++ c) (b.size : Int) = (a, ((b.size + (sealB a).length : Nat) : Int), 0) := by
    refine openS_seal (r := bytesOf c) (by omega) (by simp only [ByteArray.size_append]; omega) ?_
    rw [bytes_append, bytes_append, bytes_son (seal_by a), List.append_assoc, List.drop_left' (size_bytes b)]
  rw [seal_f (by omega) (by omega), Option.bind_some, if_pos (by omega), if_pos (by simp only [ByteArray.size_append]; omega), open_f (by simp only [ByteArray.size_append]; omega) _ (by omega), Option.bind_some, ho]
  simp only [if_true]
  rw [hsz, w64 (by omega)]
  have fin : ∀ k, 100 ≤ k → rivuletlaw02_CheckBack.j0 k c false = some true := by
    intro k hk
    obtain ⟨k, rfl⟩ : ∃ m, k = m + 1 := ⟨k - 1, by omega⟩
    simp only [rivuletlaw02_CheckBack.j0]
    rw [if_neg (by simp), open_f (by omega) 0 (by omega), Option.bind_some]
    rcases openS_cases c 0 with ⟨x, hx, e⟩ | ⟨p, x, hp, h1, h2, h3, e⟩
    · rw [e]
      simp only []
      rw [if_neg hx, if_pos (by rw [toList_eq])]
      simp only [if_true]
      rw [fixed_f (by omega)]
      rfl
    · obtain rfl : p = 0 := by omega
      have hl2 := seal_length x
      rw [Nat.zero_add] at e h2
      rw [List.drop_zero] at h3
      rw [e]
      simp only [if_true]
      rw [if_pos (by omega), if_pos (by omega), seal_f (by omega) (by omega), Option.bind_some, if_pos (by omega), if_pos (by
        rw [toList_inj]
        apply bytes_inj
        rw [bytes_son (seal_by x), bytes_extract, List.drop_zero, Nat.sub_zero, Int.toNat_natCast, h3]), fixed_f (by omega)]
      rfl
  rw [show (((b.size + (sealB a).length : Nat) : Int) != (b.size : Int) + ((sealB a).length : Int)) = false by rw [bne_eq_false_iff_eq]; omega]
  exact fin _ (by omega)
end Go.Proofs.Ythincnfcekcdaaa.Pure
