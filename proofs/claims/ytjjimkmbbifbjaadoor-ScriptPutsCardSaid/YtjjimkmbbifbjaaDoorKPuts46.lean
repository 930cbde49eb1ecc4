import Derived.Test.YtjjimkmbbifbjaaDoorKPuts41
import Derived.Test.YtjjimkmbbifbjaaDoorKPuts45
namespace Go.Proofs.YtjjimkmbbifbjaaDoor.Pure
open Go Go.RowKit Go.Proofs.YtjjimkmbbifbjaaDoor Go.Proofs.YtjjimkmbbifbjaaDoor.VF Go.Proofs.YtjjimkmbbifbjaaDoor.SP Go.Proofs.YtjjimkmbbifbjaaDoor.SW Go.Proofs.YtjjimkmbbifbjaaDoor.SR Go.Proofs.YtjjimkmbbifbjaaDoor.Pr Go.Proofs.YtjjimkmbbifbjaaDoorW.PrintWords
theorem fixed_bind {k : Nat} (hk : 10 ≤ k) : ((rivuletlaw23_fixed.f k).bind fun t => some t) = some true := by rw [fixed_true hk]; rfl
theorem rright_t8 (x : A) (h : fit x) : rivuletref23_Right.f (t8 x).1 (t8 x).2.1 (t8 x).2.2.1 (t8 x).2.2.2.1 (t8 x).2.2.2.2.1 (t8 x).2.2.2.2.2.1 (t8 x).2.2.2.2.2.2.1 (t8 x).2.2.2.2.2.2.2 = some (rA x) := right_t8 x h
theorem rbare_t8 (x : A) : rivuletref23_Bare.f (t8 x).1 (t8 x).2.1 (t8 x).2.2.1 (t8 x).2.2.2.1 (t8 x).2.2.2.2.1 (t8 x).2.2.2.2.2.1 (t8 x).2.2.2.2.2.2.1 (t8 x).2.2.2.2.2.2.2 = some (t8 (bareA x)) := rfl
theorem rput_t8 (x : A) (h : fit x) : rivuletref23_Put.f (t8 x).1 (t8 x).2.1 (t8 x).2.2.1 (t8 x).2.2.2.1 (t8 x).2.2.2.2.1 (t8 x).2.2.2.2.2.1 (t8 x).2.2.2.2.2.2.1 (t8 x).2.2.2.2.2.2.2 = some (pA x) := put_t8 x h
theorem ScriptPuts (a0 a1 a2 a3 : Int) (a4 a5 : ByteArray) (a6 : Bool) (a7 : Int) (n : Int) (l0 : List A)
    (_ : (Lit.int .i64 a0).wf = true) (_ : (Lit.int .i64 a1).wf = true) (_ : (Lit.int .i64 a2).wf = true) (_ : (Lit.int .i64 a3).wf = true) (_ : a4.size ≤ maxLen) (_ : a5.size ≤ maxLen) (_ : (Lit.int .i64 a7).wf = true) (_ : (Lit.int .i64 n).wf = true) :
    ∃ k, rivuletlaw23_ScriptPuts.f k a0 a1 a2 a3 a4 a5 a6 a7 n l0 = some true := by
  refine ⟨20000, ?_⟩
  unfold rivuletlaw23_ScriptPuts.f
  have fa := cut_fit ⟨a0, a1, a2, a3, a4, a5, a6, a7⟩
  obtain ⟨l, hl, hn, hf⟩ := Cut_f l0 (k := 20000) (by decide)
  rw [cut_t8, Option.bind_some, hl, Option.bind_some, right_t8 _ fa, Option.bind_some, rright_t8 _ fa, Option.bind_some, if_pos (by simp), bare_t8, Option.bind_some, rbare_t8, Option.bind_some, if_pos (by simp), put_t8 _ fa, Option.bind_some, rput_t8 _ fa, Option.bind_some, if_pos rfl]
  rw [show script_Name.f n = some (nameS n) from rfl, Option.bind_some, show rivuletref23_Name.f n = some (nameS n) from rfl, Option.bind_some, if_pos rfl]
  rw [showT_f (by omega) (fit_big hf), Option.bind_some, rshow_f l (by omega) (fit_big hf) (by omega), Option.bind_some, if_pos rfl, fixed_bind (by decide)]
end Go.Proofs.YtjjimkmbbifbjaaDoor.Pure
