import Derived.Test.YtdoaomoocikmaaaDoorKMarks40
import Derived.Test.YtdoaomoocikmaaaDoorKMarks41
namespace Go.Proofs.YtdoaomoocikmaaaDoor.Pure
open Go Go.RowKit Go.Proofs.YtdoaomoocikmaaaDoor Go.Proofs.YtdoaomoocikmaaaDoor.EB Go.Proofs.YtdoaomoocikmaaaDoor.ER Go.Proofs.YtdoaomoocikmaaaDoor.Pr Go.Proofs.YtdoaomoocikmaaaDoorW.PrintWords
theorem EventMarks (l : List MK) : ∃ k, rivuletlaw06_EventMarks.f k l = some true := by
  refine ⟨2000, ?_⟩
  have hm : 0 ≤ mn (l.length : Int) 40 ∧ mn (l.length : Int) 40 ≤ l.length ∧ mn (l.length : Int) 40 ≤ 40 := by unfold mn; split <;> omega
  unfold rivuletlaw06_EventMarks.f
  rw [if_pos hm.1, if_pos hm.2.1, Option.bind_some]
  have hs : (l.take ((mn (l.length : Int) 40) : Int).toNat).length ≤ 40 := by rw [List.length_take]; omega
  generalize l.take ((mn (l.length : Int) 40) : Int).toNat = s at *
  rw [show event_Sorted.f s = some (sortedB (unM s)) from if_pos (by omega), Option.bind_some, rsorted_f s (by omega) (by omega), Option.bind_some, if_pos (by simp), show event_Marks.f s = some (marksB (unM s)) from if_pos (by omega), Option.bind_some, rmarks_f s (by omega) (by omega), Option.bind_some, if_pos rfl]
  rw [fixed_true (by omega)]
  rfl
end Go.Proofs.YtdoaomoocikmaaaDoor.Pure
