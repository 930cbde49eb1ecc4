/-
  What is sealed tells its text: sealed bytes of texts that are not the same are not, nor is one the beginning of the other one; without their last byte they are too short (texts cut to 60 bytes).
-/
import Derived.Test.YthincnfcekcdaaaChkMore
import Derived.Test.YthincnfcekcdaaaChkFixed
import Derived.Test.YthincnfcekcdaaaPr3
import Derived.Test.YthincnfcekcdaaaPr13
namespace Go.Proofs.Ythincnfcekcdaaa.Pure
open Go.RowKit Go.Proofs.Ythincnfcekcdaaa Go.Proofs.Ythincnfcekcdaaa.Pr Go.Proofs.Ythincnfcekcdaaa.VP Go.Proofs.Ythincnfcekcdaaa.VF Go.Proofs.Ythincnfcekcdaaa.CP Go.Proofs.Ythincnfcekcdaaa.CF Go.Proofs.YthincnfcekcdaaaW.PrintWords Go.Proofs.YthincnfcekcdaaaW.PrintLast Go.Proofs.YthincnfcekcdaaaW.PrintMore

theorem CheckTexts : rivuletlaw02_CheckTexts.Pure := by
  intro s t hs ht
  refine ⟨1000, ?_⟩
  unfold rivuletlaw02_CheckTexts.f
  have m1 := mn_bd (a := (s.size : Int)) (b := 60) (by omega) (by omega)
  have m2 := mn_bd (a := (t.size : Int)) (b := 60) (by omega) (by omega)
  have z1 := cut_size s (mn s.size 60)
  have z2 := cut_size t (mn t.size 60)
  rw [if_pos m1.1, if_pos m1.2.1, if_pos m2.1, if_pos m2.2.1]
  generalize s.extract 0 (mn s.size 60).toNat = a at *
  generalize t.extract 0 (mn t.size 60).toNat = b at *
  have ha := seal_length a
  have hb := seal_length b
  have ga := sz_bd a.size
  have gb := sz_bd b.size
  have ea : (strOfNums (sealB a)).size = (sealB a).length := strOfNums_size _
  have eb : (strOfNums (sealB b)).size = (sealB b).length := strOfNums_size _
  have e1 : openS (strOfNums (sealB a) ++ strOfNums (sealB b)) 0 = (a, ((sealB a).length : Int), 0) := by
    rw [son_append]
    exact open_son (by omega) _ (seal_by b)
  have e2 : openS ((strOfNums (sealB a)).extract 0 ((sealB a).length - 1)) 0 = (⟨#[]⟩, 0, 3) := by
    refine open_short (x := a) (p := 0) (j := (sealB a).length - 1) (by omega) (by omega) (by omega) ?_
    rw [List.drop_zero, bytes_extract, bytes_son (seal_by a), List.drop_zero, Nat.sub_zero]
  have e3 : mx 0 (wrap64 (((strOfNums (sealB a)).size : Int) - 1)) = (((sealB a).length - 1 : Nat) : Int) := by
    rw [w64 (by omega)]
    unfold mx
    split <;> omega
  rw [seal_f (by omega) (by omega), Option.bind_some, seal_f (by omega) (by omega), Option.bind_some, if_pos (by omega), open_f (by simp only [ByteArray.size_append]; omega) 0 (by omega), Option.bind_some, e1, e3, if_pos (by omega), if_pos (by omega), Int.toNat_natCast,
    open_f (by simp; omega) 0 (by omega), Option.bind_some, e2]
  simp only [if_true]
  by_cases h : a = b
  · subst h
    rw [if_pos (by simp), if_neg (by omega), if_pos rfl, fixed_f (by omega)]
    rfl
  · have hne : ¬ (strOfNums (sealB a)).toList = (strOfNums (sealB b)).toList := by
      intro k
      have k2 := congrArg bytesOf (toList_inj.1 k)
      rw [bytes_son (seal_by a), bytes_son (seal_by b)] at k2
      exact h (seal_inj (by omega) (by omega) By.nil By.nil (by rw [List.append_nil, List.append_nil, k2]))
    have hab : ¬ a.toList = b.toList := fun k => h (toList_inj.1 k)
    rw [if_pos (by rw [beq_eq_false_iff_ne.2 hne, beq_eq_false_iff_ne.2 hab]; rfl)]
    by_cases g : ((strOfNums (sealB a)).size : Int) > ((strOfNums (sealB b)).size : Int)
    · rw [if_pos g, fixed_f (by omega)]
      rfl
    · rw [if_neg g, if_neg hab, if_pos (by omega), if_pos (by omega), if_neg (by
        intro k
        have k2 := congrArg bytesOf (toList_inj.1 k)
        rw [bytes_extract, bytes_son (seal_by a), bytes_son (seal_by b), List.drop_zero, Nat.sub_zero, Int.toNat_natCast, ea] at k2
        refine h (seal_inj (r := (sealB b).drop (sealB a).length) (r' := []) (by omega) (by omega) ((seal_by b).drop _) By.nil ?_)
        rw [List.append_nil]
        conv => rhs; rw [← List.take_append_drop (sealB a).length (sealB b), k2]), fixed_f (by omega)]
      rfl
end Go.Proofs.Ythincnfcekcdaaa.Pure
