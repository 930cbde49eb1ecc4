import Derived.Test.YtjjimkmbbifbjaaDoorKGets39
import Derived.Test.YtjjimkmbbifbjaaDoorKGets40
namespace Go.Proofs.YtjjimkmbbifbjaaDoor.Pure
open Go Go.RowKit Go.Proofs.YtjjimkmbbifbjaaDoor Go.Proofs.YtjjimkmbbifbjaaDoor.SP Go.Proofs.YtjjimkmbbifbjaaDoor.SR Go.Proofs.YtjjimkmbbifbjaaDoor.Pr Go.Proofs.YtjjimkmbbifbjaaDoorW.PrintWords
theorem ScriptGets : rivuletlaw23_ScriptGets.Pure := by
  intro a0 a1 _ _
  have hm : 0 ≤ mn (a0.size : Int) 400 ∧ mn (a0.size : Int) 400 ≤ a0.size ∧ mn (a0.size : Int) 400 ≤ 400 := by unfold mn; split <;> omega
  refine ⟨2000, ?_⟩
  unfold rivuletlaw23_ScriptGets.f
  rw [if_pos hm.1, if_pos hm.2.1]
  have hs : (a0.extract 0 ((mn (a0.size : Int) 400) : Int).toNat).size ≤ 400 := by rw [ByteArray.size_extract]; omega
  generalize a0.extract 0 ((mn (a0.size : Int) 400) : Int).toNat = s at *
  obtain ⟨l, q, hr, hl, _, _⟩ := rds_some s s.size 0 (by omega) (by omega) (by omega)
  have ha := all_f (k := 2000) (by omega) hr (by omega) (by omega)
  have hb : rivuletref23_All.f 2000 s = some (l, q) := (rall_l0 2000 s [] 0).trans ha
  rw [show script_Get.f s a1 = some (getA s a1) from if_pos (by omega), Option.bind_some, show rivuletref23_Get.f s a1 = some (getA s a1) from if_pos (by omega), Option.bind_some, ha, Option.bind_some, hb, Option.bind_some]
  rw [if_pos (by simp), if_pos rfl, if_pos rfl]
  simp only []
  rw [same_f l l (by omega) (by omega), Option.bind_some, if_pos (by simp), if_pos trivial, fixed_true (by omega)]
  rfl
end Go.Proofs.YtjjimkmbbifbjaaDoor.Pure
