/-
  The statement TopicLess, over numbers and lists: being ahead is an order of texts.
-/
import Derived.Test.YtfakimleoihfgaaDoorPr11
import Derived.Test.YtfakimleoihfgaaDoorTopPure2
namespace Go.Proofs.YtfakimleoihfgaaDoor.Pure
open Go Go.RowKit Go.Proofs.YtfakimleoihfgaaDoor Go.Proofs.YtfakimleoihfgaaDoor.TP Go.Proofs.YtfakimleoihfgaaDoor.TW Go.Proofs.YtfakimleoihfgaaDoor.TF Go.Proofs.YtfakimleoihfgaaDoor.Pr Go.Proofs.YtfakimleoihfgaaDoorW.PrintWords
theorem TopicLess : rivuletlaw03_TopicLess.Pure := by
  intro a0 a1 a2 _ _ _
  obtain ⟨h0, h1, h2⟩ := cut200 a0
  obtain ⟨g0, g1, g2⟩ := cut200 a1
  obtain ⟨e0, e1, e2⟩ := cut200 a2
  unfold rivuletlaw03_TopicLess.f
  rw [if_pos h0, if_pos h1, if_pos g0, if_pos g1, if_pos e0, if_pos e1]
  generalize a0.extract 0 ((mn (a0.size : Int) 200) : Int).toNat = s at *
  generalize a1.extract 0 ((mn (a1.size : Int) 200) : Int).toNat = t at *
  generalize a2.extract 0 ((mn (a2.size : Int) 200) : Int).toNat = u at *
  have hbne : ∀ x y : ByteArray, (x.toList != y.toList) = !decide (x = y) := fun x y => by unfold bne; rw [tl_beq]
  rw [tf_less (by omega) (by omega), Option.bind_some, tf_less (by omega) (by omega), Option.bind_some, hbne]
  cases hst : lessB s t with
  | true =>
    have hts : lessB t s = false := lessL_asymm _ _ hst
    have hne : ¬ s = t := fun e => by subst e; unfold lessB at hst; rw [lessL_irrefl] at hst; cases hst
    rw [if_pos rfl, hts, if_neg (by decide), if_pos (by simp [hne]), tf_less (by omega) (by omega), Option.bind_some]
    cases htu : lessB t u with
    | true =>
      have hsu : lessB s u = true := lessL_trans _ _ _ hst htu
      rw [if_pos rfl, tf_less (by omega) (by omega), Option.bind_some, hsu, if_pos rfl]
      rfl
    | false =>
      rw [if_neg (by decide)]
      rfl
  | false =>
    rw [if_neg (by decide)]
    have : lessB t s = !decide (s = t) := by
      by_cases e : s = t
      · subst e; simpa using hst
      · rw [decide_eq_false e]
        rcases lessL_total _ _ (fun g => e (lv_inj g)) with g | g
        · unfold lessB at hst
          rw [hst] at g
          cases g
        · exact g
    rw [this, if_pos (by simp)]
    rfl
end Go.Proofs.YtfakimleoihfgaaDoor.Pure
