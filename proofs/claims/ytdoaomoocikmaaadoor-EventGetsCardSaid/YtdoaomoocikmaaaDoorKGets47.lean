import Derived.Test.YtdoaomoocikmaaaDoorKGets44
import Derived.Test.YtdoaomoocikmaaaDoorKGets46
namespace Go.Proofs.YtdoaomoocikmaaaDoor.Pure
open Go Go.RowKit Go.Proofs.YtdoaomoocikmaaaDoor Go.Proofs.YtdoaomoocikmaaaDoor.EB Go.Proofs.YtdoaomoocikmaaaDoor.ER Go.Proofs.YtdoaomoocikmaaaDoor.Pr Go.Proofs.YtdoaomoocikmaaaDoorW.PrintWords
theorem EventGets : rivuletlaw06_EventGets.Pure := by
  intro a0 a1 _ _
  have hm : 0 ≤ mn (a0.size : Int) 500 ∧ mn (a0.size : Int) 500 ≤ a0.size ∧ mn (a0.size : Int) 500 ≤ 500 := by unfold mn; split <;> omega
  refine ⟨2000, ?_⟩
  unfold rivuletlaw06_EventGets.f
  rw [if_pos hm.1, if_pos hm.2.1]
  have hs : (a0.extract 0 ((mn (a0.size : Int) 500) : Int).toNat).size ≤ 500 := by rw [ByteArray.size_extract]; omega
  generalize a0.extract 0 ((mn (a0.size : Int) 500) : Int).toNat = s at *
  rw [show event_Get.f s a1 = some (getE s a1) from if_pos (by omega), Option.bind_some, rget_f s (by omega) a1 (by omega), Option.bind_some, show event_Cut.f s a1 = some (reM (cutE s a1).1, (cutE s a1).2.1, (cutE s a1).2.2) from if_pos (by omega), Option.bind_some, rcut_f s (by omega) a1 (by omega), Option.bind_some]
  have hz : (cutE s a1).1.length ≤ 1000 := cutE_len s a1
  rw [if_pos (by simp), if_pos rfl, if_pos rfl]
  simp only []
  rw [requal_f _ _ (by rw [re_len]; omega) (by rw [re_len]; omega), Option.bind_some, if_pos (by simp)]
  rw [if_pos trivial, if_pos trivial, fixed_true (by omega)]
  rfl
end Go.Proofs.YtdoaomoocikmaaaDoor.Pure
