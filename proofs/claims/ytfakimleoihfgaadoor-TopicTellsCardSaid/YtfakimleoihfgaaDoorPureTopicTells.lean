/-
  The statement TopicTells, over numbers and lists: the program's answers are the document's.
-/
import Derived.Test.YtfakimleoihfgaaDoorPr3
import Derived.Test.YtfakimleoihfgaaDoorTopPure2
namespace Go.Proofs.YtfakimleoihfgaaDoor.Pure
open Go Go.RowKit Go.Proofs.YtfakimleoihfgaaDoor Go.Proofs.YtfakimleoihfgaaDoor.TP Go.Proofs.YtfakimleoihfgaaDoor.TW Go.Proofs.YtfakimleoihfgaaDoor.TF Go.Proofs.YtfakimleoihfgaaDoor.Pr Go.Proofs.YtfakimleoihfgaaDoorW.PrintWords
theorem TopicTells : rivuletlaw03_TopicTells.Pure := by
  intro a0 a1 _ _
  obtain ⟨h0, h1, h2⟩ := cut200 a0
  obtain ⟨g0, g1, g2⟩ := cut200 a1
  refine ⟨5000, ?_⟩
  unfold rivuletlaw03_TopicTells.f
  rw [if_pos h0, if_pos h1, if_pos g0, if_pos g1]
  generalize a0.extract 0 ((mn (a0.size : Int) 200) : Int).toNat = s at *
  generalize a1.extract 0 ((mn (a1.size : Int) 200) : Int).toNat = t at *
  have hl := lv_len s
  rw [tf_right (by omega), Option.bind_some, right_f (by omega) (by omega), Option.bind_some, if_pos (by simp), tf_filter (by omega), Option.bind_some, filter_f (by omega) (by omega), Option.bind_some, if_pos (by simp), tf_levels (by omega), Option.bind_some, levels_f (by omega) (by omega), Option.bind_some, same_f _ _ (by omega) (by omega), Option.bind_some, if_pos (by simp), tf_less (by omega) (by omega), Option.bind_some, less_f (by omega) (by omega) (by omega), Option.bind_some, if_pos (by simp)]
  rfl
end Go.Proofs.YtfakimleoihfgaaDoor.Pure
