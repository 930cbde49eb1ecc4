/-
  The statement TopicLets, over numbers and lists: the program's answers are the document's.
-/
import Derived.Test.YtfakimleoihfgaaDoorPr6
import Derived.Test.YtfakimleoihfgaaDoorTopPure2
namespace Go.Proofs.YtfakimleoihfgaaDoor.Pure
open Go Go.RowKit Go.Proofs.YtfakimleoihfgaaDoor Go.Proofs.YtfakimleoihfgaaDoor.TP Go.Proofs.YtfakimleoihfgaaDoor.TW Go.Proofs.YtfakimleoihfgaaDoor.TF Go.Proofs.YtfakimleoihfgaaDoor.Pr Go.Proofs.YtfakimleoihfgaaDoorW.PrintWords
theorem TopicLets : rivuletlaw03_TopicLets.Pure := by
  intro a0 a1 a2 _ _ _
  obtain ⟨h0, h1, h2⟩ := cut200 a0
  obtain ⟨g0, g1, g2⟩ := cut200 a1
  obtain ⟨e0, e1, e2⟩ := cut200 a2
  refine ⟨5000, ?_⟩
  unfold rivuletlaw03_TopicLets.f
  rw [if_pos h0, if_pos h1, if_pos g0, if_pos g1, if_pos e0, if_pos e1]
  generalize a0.extract 0 ((mn (a0.size : Int) 200) : Int).toNat = s at *
  generalize a1.extract 0 ((mn (a1.size : Int) 200) : Int).toNat = t at *
  generalize a2.extract 0 ((mn (a2.size : Int) 200) : Int).toNat = u at *
  rw [tf_match (by omega) (by omega), Option.bind_some, match_f (by omega) (by omega) (by omega), Option.bind_some, if_pos (by simp), tf_covers (by omega) (by omega), Option.bind_some, covers_f (by omega) (by omega) (by omega), Option.bind_some, if_pos (by simp), tf_meet (by omega) (by omega), Option.bind_some, meet_f (by omega) (by omega) (by omega), Option.bind_some, if_pos (by simp)]
  rfl
end Go.Proofs.YtfakimleoihfgaaDoor.Pure
