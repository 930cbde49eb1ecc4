/-
  The statement TopicWider, over numbers and lists: a level in front of both makes no difference.
-/
import Derived.Test.YtfakimleoihfgaaDoorPr12
import Derived.Test.YtfakimleoihfgaaDoorTopPure2
namespace Go.Proofs.YtfakimleoihfgaaDoor.Pure
open Go Go.RowKit Go.Proofs.YtfakimleoihfgaaDoor Go.Proofs.YtfakimleoihfgaaDoor.TP Go.Proofs.YtfakimleoihfgaaDoor.TW Go.Proofs.YtfakimleoihfgaaDoor.TF Go.Proofs.YtfakimleoihfgaaDoor.Pr Go.Proofs.YtfakimleoihfgaaDoorW.PrintWords
theorem wide_lv (c : UInt8) (hc : lv ⟨#[c]⟩ = [⟨#[c]⟩]) (s : ByteArray) : lv ((⟨#[c, 47]⟩ : ByteArray) ++ s) = ⟨#[c]⟩ :: lv s := by
  rw [lv_app ⟨#[c]⟩ s _ (by simp), hc]
  rfl
theorem wide_size (c d : UInt8) (s : ByteArray) : ((⟨#[c, d]⟩ : ByteArray) ++ s).size = s.size + 2 := by
  rw [ByteArray.size_append, show (⟨#[c, d]⟩ : ByteArray).size = 2 from rfl]
  omega
theorem wider_yes (k : Nat) (s t : ByteArray) : rivuletlaw03_TopicWider.j0 (k + 1) s t true = some true := by
  simp only [rivuletlaw03_TopicWider.j0]
  rfl
theorem wider_no (k : Nat) (s t : ByteArray) (hs : s.size ≤ 150) (ht : t.size ≤ 150) (h1 : (lv s).length < 8) (h2 : (lv t).length < 8) : rivuletlaw03_TopicWider.j0 (k + 1) s t false = some true := by
  have e1 : lv ((⟨#[43, 47]⟩ : ByteArray) ++ s) = TP.one :: lv s := wide_lv 43 (by decide) s
  have e2 : lv ((⟨#[120, 47]⟩ : ByteArray) ++ s) = xx :: lv s := wide_lv 120 (by decide) s
  have e3 : lv ((⟨#[121, 47]⟩ : ByteArray) ++ s) = yy :: lv s := wide_lv 121 (by decide) s
  have e4 : lv ((⟨#[120, 47]⟩ : ByteArray) ++ t) = xx :: lv t := wide_lv 120 (by decide) t
  have z1 := wide_size 43 47 s
  have z2 := wide_size 120 47 s
  have z3 := wide_size 121 47 s
  have z4 := wide_size 120 47 t
  have m1 := wide_one h1 h2 e1 e4
  have m2 := wide_same h1 h2 e2 e4
  have m3 := wide_not e3 e4
  have m4 := wide_cov h1 e1 e2
  simp only [rivuletlaw03_TopicWider.j0]
  generalize (⟨#[43, 47]⟩ : ByteArray) ++ s = p1 at *
  generalize (⟨#[120, 47]⟩ : ByteArray) ++ s = p2 at *
  generalize (⟨#[121, 47]⟩ : ByteArray) ++ s = p3 at *
  generalize (⟨#[120, 47]⟩ : ByteArray) ++ t = p4 at *
  rw [if_neg (by decide), tf_match (by omega) (by omega), Option.bind_some, if_pos (by omega), if_pos (by omega), tf_match (by omega) (by omega), Option.bind_some, m1, if_pos (by simp), tf_match (by omega) (by omega), Option.bind_some, m2, if_pos (by simp), tf_match (by omega) (by omega), Option.bind_some, m3, if_neg (by decide), tf_covers (by omega) (by omega), Option.bind_some, m4, tf_filter (by omega), Option.bind_some, if_pos (by simp)]
  rfl
theorem TopicWider : rivuletlaw03_TopicWider.Pure := by
  intro a0 a1 _ _
  obtain ⟨h0, h1, h2⟩ := cut150 a0
  obtain ⟨g0, g1, g2⟩ := cut150 a1
  refine ⟨4999 + 1, ?_⟩
  unfold rivuletlaw03_TopicWider.f
  rw [if_pos h0, if_pos h1, if_pos g0, if_pos g1]
  generalize a0.extract 0 ((mn (a0.size : Int) 150) : Int).toNat = s at *
  generalize a1.extract 0 ((mn (a1.size : Int) 150) : Int).toNat = t at *
  rw [levels_f (by omega) (by omega), Option.bind_some]
  by_cases h : 8 ≤ (lv s).length
  · rw [if_pos (by omega), wider_yes]
  · rw [if_neg (by omega), levels_f (by omega) (by omega), Option.bind_some]
    by_cases g : 8 ≤ (lv t).length
    · rw [decide_eq_true (by omega), wider_yes]
    · rw [decide_eq_false (by omega), wider_no _ _ _ h2 g2 (by omega) (by omega)]
end Go.Proofs.YtfakimleoihfgaaDoor.Pure
