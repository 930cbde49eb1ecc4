import Derived.Test.YtdoaomoocikmaaaDoorKPuts39
import Derived.Test.YtdoaomoocikmaaaDoorKPuts42
namespace Go.Proofs.YtdoaomoocikmaaaDoor.Pure
open Go Go.RowKit Go.Proofs.YtdoaomoocikmaaaDoor Go.Proofs.YtdoaomoocikmaaaDoor.VF Go.Proofs.YtdoaomoocikmaaaDoor.EB Go.Proofs.YtdoaomoocikmaaaDoor.EW Go.Proofs.YtdoaomoocikmaaaDoor.ER Go.Proofs.YtdoaomoocikmaaaDoor.Pr Go.Proofs.YtdoaomoocikmaaaDoorW.PrintWords
theorem EventPuts (o q : Int) (t l : ByteArray) (m o2 q2 : Int) (t2 l2 : ByteArray) (m2 n : Int) (_ : (Lit.int .i64 o).wf = true) (_ : (Lit.int .i64 q).wf = true) (_ : t.size ≤ maxLen) (_ : l.size ≤ maxLen) (hm : (Lit.int .i64 m).wf = true)
    (_ : (Lit.int .i64 o2).wf = true) (_ : (Lit.int .i64 q2).wf = true) (_ : t2.size ≤ maxLen) (_ : l2.size ≤ maxLen) (_ : (Lit.int .i64 m2).wf = true) (_ : (Lit.int .i64 n).wf = true) : ∃ k, rivuletlaw06_EventPuts.f k o q t l m o2 q2 t2 l2 m2 n = some true := by
  refine ⟨100, ?_⟩
  have hm := wf_i64 hm
  unfold rivuletlaw06_EventPuts.f
  obtain ⟨t', l', ht, hl, e⟩ := cut_f o q t l m
  obtain ⟨t2', l2', ht2, hl2, e2⟩ := cut_f o2 q2 t2 l2 m2
  rw [e, Option.bind_some, e2, Option.bind_some]
  clear e e2
  simp only []
  rw [er o q t' l' m (by omega), Option.bind_some, rright_f o q t' l' m (by omega), Option.bind_some, if_pos (by simp), show event_Put.f o q t' l' m = some (putB o q t' l' m) from if_pos ⟨by omega, by omega⟩, Option.bind_some,
    rput_f o q t' l' m (by omega) (by omega), Option.bind_some, if_pos rfl, show event_Show.fT o q t' l' m = some (showB o q t' l' m) from if_pos ⟨by omega, by omega⟩, Option.bind_some, rshow_f o q t' l' m (by omega) (by omega), Option.bind_some, if_pos rfl,
    age_f o q t' l' hm, Option.bind_some, rage_f o q t' l' hm, Option.bind_some, if_pos (by simp), esame_f, Option.bind_some, rsame_f, Option.bind_some, if_pos (by simp), fixed_true (by omega)]
  rfl
end Go.Proofs.YtdoaomoocikmaaaDoor.Pure
