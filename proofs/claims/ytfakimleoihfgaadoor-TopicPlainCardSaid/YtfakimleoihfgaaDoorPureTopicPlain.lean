/-
  The statement TopicPlain, over numbers and lists: a topic is a filter that lets just itself by.
-/
import Derived.Test.YtfakimleoihfgaaDoorPr10
import Derived.Test.YtfakimleoihfgaaDoorTopPure2
namespace Go.Proofs.YtfakimleoihfgaaDoor.Pure
open Go Go.RowKit Go.Proofs.YtfakimleoihfgaaDoor Go.Proofs.YtfakimleoihfgaaDoor.TP Go.Proofs.YtfakimleoihfgaaDoor.TW Go.Proofs.YtfakimleoihfgaaDoor.TF Go.Proofs.YtfakimleoihfgaaDoor.Pr Go.Proofs.YtfakimleoihfgaaDoorW.PrintWords
theorem TopicPlain : rivuletlaw03_TopicPlain.Pure := by
  intro a0 a1 _ _
  obtain ⟨h0, h1, h2⟩ := cut200 a0
  obtain ⟨g0, g1, g2⟩ := cut200 a1
  unfold rivuletlaw03_TopicPlain.f
  rw [if_pos h0, if_pos h1, if_pos g0, if_pos g1]
  generalize a0.extract 0 ((mn (a0.size : Int) 200) : Int).toNat = s at *
  generalize a1.extract 0 ((mn (a1.size : Int) 200) : Int).toNat = t at *
  have hr : (⟨#[35]⟩ : ByteArray).size ≤ 900000 := by decide
  have em : s ++ (⟨#[47, 35]⟩ : ByteArray) = more s := by
    apply ba_ext
    unfold more
    simp
  have hm : (more s).size ≤ 900000 := by rw [← em, ByteArray.size_append, show (⟨#[47, 35]⟩ : ByteArray).size = 2 from rfl]; omega
  rw [tf_right (by omega), Option.bind_some]
  have ha : matchB ⟨#[35]⟩ s = rightB s := all_match
  cases hs : rightB s with
  | false =>
    rw [if_neg (by decide), tf_match hr (by omega), Option.bind_some, ha, hs, if_neg (by decide)]
    rfl
  | true =>
    rw [if_pos rfl, tf_filter (by omega), Option.bind_some, right_filter hs, if_pos rfl, tf_match (by omega) (by omega), Option.bind_some, plain_match hs, tl_beq, if_pos (by simp), tf_match hr (by omega), Option.bind_some, ha, hs, if_pos rfl, if_pos (by omega), em, tf_match hm (by omega), Option.bind_some, tf_filter hm, Option.bind_some, plain_more hs, if_pos (by simp)]
    rfl
end Go.Proofs.YtfakimleoihfgaaDoor.Pure
