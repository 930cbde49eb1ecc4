import Derived.Test.YtdoaomoocikmaaaDoorKAges38
import Derived.Test.YtdoaomoocikmaaaDoorKAges41
namespace Go.Proofs.YtdoaomoocikmaaaDoor.Pure
open Go Go.RowKit Go.Proofs.YtdoaomoocikmaaaDoor Go.Proofs.YtdoaomoocikmaaaDoor.VF Go.Proofs.YtdoaomoocikmaaaDoor.EB Go.Proofs.YtdoaomoocikmaaaDoor.EW Go.Proofs.YtdoaomoocikmaaaDoor.ER Go.Proofs.YtdoaomoocikmaaaDoor.Pr Go.Proofs.YtdoaomoocikmaaaDoorW.PrintWords
theorem EventAges (o q : Int) (t l : ByteArray) (m n1 n2 : Int) (_ : (Lit.int .i64 o).wf = true) (_ : (Lit.int .i64 q).wf = true) (_ : t.size ≤ maxLen) (_ : l.size ≤ maxLen) (hm : (Lit.int .i64 m).wf = true)
    (h1 : (Lit.int .u16 n1).wf = true) (h2 : (Lit.int .u16 n2).wf = true) : ∃ k, rivuletlaw06_EventAges.f k o q t l m n1 n2 = some true := by
  refine ⟨100, ?_⟩
  have hm := wf_i64 hm
  have h1 := wf_u16 h1
  have h2 := wf_u16 h2
  unfold rivuletlaw06_EventAges.f
  obtain ⟨t', l', ht, hl, e⟩ := cut_f o q t l m
  rw [e, Option.bind_some]
  clear e
  simp only []
  rw [w64 (show -9223372036854775808 ≤ n1 ∧ n1 ≤ 9223372036854775807 by omega), w64 (show -9223372036854775808 ≤ n2 ∧ n2 ≤ 9223372036854775807 by omega), w64 (show -9223372036854775808 ≤ n1 + n2 ∧ n1 + n2 ≤ 9223372036854775807 by omega)]
  rw [age_f o q t' l' hm, Option.bind_some]
  simp only []
  have ha : -9223372036854775808 ≤ ageT m n1 ∧ ageT m n1 ≤ 9223372036854775807 := by unfold ageT; split <;> (try split) <;> omega
  rw [age_f o q t' l' ha, Option.bind_some, er o q t' l' m (by omega), Option.bind_some]
  cases hr : rightE o q t' l' m with
  | false =>
    rw [if_neg (by decide), show event_Show.f o q t' l' m = some (showB o q t' l' m) from if_pos ⟨by omega, by omega, .inl hr⟩, Option.bind_some]
    have hs : showB o q t' l' m = ⟨#[]⟩ := by unfold showB; rw [hr]; rfl
    have hp : putB o q t' l' m = ⟨#[]⟩ := by unfold putB; rw [hr]; rfl
    rw [hs, if_pos (by rw [toList_eq]), show event_Put.f o q t' l' m = some (putB o q t' l' m) from if_pos ⟨by omega, by omega⟩, Option.bind_some, hp, if_pos (by rw [toList_eq]), fixed_true (by omega)]
    rfl
  | true =>
    obtain ⟨_, _, ⟨m0, m1⟩, _, _⟩ := right_bd hr
    have hr2 : rightE o q t' l' (ageT m n1) = true := by
      unfold rightE at hr ⊢
      simp only [Bool.and_eq_true, decide_eq_true_eq] at hr ⊢
      refine ⟨hr.1, hr.2.1, ?_, hr.2.2.2⟩
      unfold ageT
      split <;> (try split) <;> omega
    have e2 : ageT (ageT m n1) n2 = ageT m (n1 + n2) := by
      unfold ageT
      repeat' split
      all_goals omega
    rw [if_pos rfl, er o q t' l' _ (by omega), Option.bind_some, hr2, if_pos rfl, esame_f, Option.bind_some, show sameB o q t' l' o q t' l' = true from decide_eq_true ⟨rfl, rfl, rfl, rfl⟩, if_pos rfl,
      if_pos (show ageT m n1 ≤ m by unfold ageT; split <;> (try split) <;> omega), if_pos (show ageT m n1 ≥ 0 by unfold ageT; split <;> (try split) <;> omega), age_f o q t' l' hm, Option.bind_some, e2, if_pos (by simp)]
    by_cases g : n1 = 0
    · rw [if_pos g, show ageT m n1 = m by unfold ageT; rw [if_pos (by omega)], if_pos (by simp), fixed_true (by omega)]
      rfl
    · rw [if_neg g, if_pos (by
        unfold ageT
        rw [if_neg (show ¬ n1 ≤ 0 by omega)]
        by_cases g2 : m = 0
        · subst g2
          rw [if_pos (by omega)]
          rfl
        · have f1 : (m == 0) = false := by simpa using g2
          by_cases g3 : m ≤ n1
          · rw [if_pos g3, f1, show ((0 : Int) == m) = false by simpa using fun h => g2 h.symm]
            rfl
          · rw [if_neg g3, f1, show ((m - n1) == m) = false by simp only [beq_eq_false_iff_ne, ne_eq]; omega]
            rfl), fixed_true (by omega)]
      rfl
end Go.Proofs.YtdoaomoocikmaaaDoor.Pure
