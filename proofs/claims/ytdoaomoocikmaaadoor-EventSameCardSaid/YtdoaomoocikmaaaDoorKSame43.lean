import Derived.Test.YtdoaomoocikmaaaDoorKSame39
import Derived.Test.YtdoaomoocikmaaaDoorKSame42
namespace Go.Proofs.YtdoaomoocikmaaaDoor.Pure
open Go Go.RowKit Go.Proofs.YtdoaomoocikmaaaDoor Go.Proofs.YtdoaomoocikmaaaDoor.VP Go.Proofs.YtdoaomoocikmaaaDoor.VF Go.Proofs.YtdoaomoocikmaaaDoor.EB Go.Proofs.YtdoaomoocikmaaaDoor.EW Go.Proofs.YtdoaomoocikmaaaDoor.ER Go.Proofs.YtdoaomoocikmaaaDoor.Pr Go.Proofs.YtdoaomoocikmaaaDoorW.PrintWords
theorem put_none (o q : Int) (t l : ByteArray) (m : Int) : (rightE o q t l m == ((putB o q t l m).toList != ([] : List UInt8))) = true := by
  unfold putB
  cases h : rightE o q t l m with
  | false => rw [if_neg (by decide), toList_eq]; rfl
  | true =>
    have : (strOfNums (putE o q t l m)).toList ≠ [] := by
      rw [toList_eq]
      intro g
      have z : (strOfNums (putE o q t l m)).size = 0 := by rw [← size_bytes]; simp [bytesOf, g]
      rw [strOfNums_size] at z
      unfold putE at z
      rw [List.length_append, enc_length] at z
      have := sz_bd o
      omega
    simp [this]
theorem EventSame (o q : Int) (t l : ByteArray) (m o2 q2 : Int) (t2 l2 : ByteArray) (m2 n : Int) (_ : (Lit.int .i64 o).wf = true) (_ : (Lit.int .i64 q).wf = true) (_ : t.size ≤ maxLen) (_ : l.size ≤ maxLen) (hm : (Lit.int .i64 m).wf = true)
    (_ : (Lit.int .i64 o2).wf = true) (_ : (Lit.int .i64 q2).wf = true) (_ : t2.size ≤ maxLen) (_ : l2.size ≤ maxLen) (_ : (Lit.int .i64 m2).wf = true) (hn : (Lit.int .u16 n).wf = true) : ∃ k, rivuletlaw06_EventSame.f k o q t l m o2 q2 t2 l2 m2 n = some true := by
  refine ⟨100, ?_⟩
  have hm := wf_i64 hm
  have hn := wf_u16 hn
  unfold rivuletlaw06_EventSame.f
  obtain ⟨t', l', ht, hl, e⟩ := cut_f o q t l m
  obtain ⟨t2', l2', ht2, hl2, e2⟩ := cut_f o2 q2 t2 l2 m2
  rw [e, Option.bind_some, e2, Option.bind_some]
  clear e e2
  simp only []
  have hend : ((event_Right.f o q t' l' m).bind fun a => (rivuletref06_Put.f o q t' l' m).bind fun b => if (a == (b.toList != ([] : List UInt8))) = true then ((rivuletlaw06_fixed.f 100).bind fun c => some c) else some false) = some true := by
    rw [er o q t' l' m (by omega), Option.bind_some, rput_f o q t' l' m (by omega) (by omega), Option.bind_some, if_pos (put_none o q t' l' m), fixed_true (by omega)]
    rfl
  have hsym : sameB o q t' l' o2 q2 t2' l2' = sameB o2 q2 t2' l2' o q t' l' := by
    unfold sameB
    rw [decide_eq_decide]
    constructor <;> (rintro ⟨h1, h2, h3, h4⟩; exact ⟨h1.symm, h2.symm, h3.symm, h4.symm⟩)
  rw [w64 (show -9223372036854775808 ≤ n ∧ n ≤ 9223372036854775807 by omega)]
  simp only [esame_f, Option.bind_some, age_f o q t' l' hm]
  rw [show sameB o q t' l' o q t' l' = true from decide_eq_true ⟨rfl, rfl, rfl, rfl⟩, if_pos rfl, hsym, if_pos (by simp), if_pos (by simp)]
  cases hs : sameB o2 q2 t2' l2' o q t' l' with
  | false => rw [if_neg (by decide)]; exact hend
  | true =>
    rw [if_pos rfl]
    by_cases g : m = m2
    · rw [if_pos g, if_pos (by
        have := of_decide_eq_true hs
        obtain ⟨h1, h2, h3, h4⟩ := this
        simp [h1, h2, h3, h4, g])]
      exact hend
    · rw [if_neg g]
      exact hend
end Go.Proofs.YtdoaomoocikmaaaDoor.Pure
