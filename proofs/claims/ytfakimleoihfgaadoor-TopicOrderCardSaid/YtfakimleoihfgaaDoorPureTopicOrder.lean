/-
  The statement TopicOrder, over numbers and lists: covering is an order, and what Meet tells.
-/
import Derived.Test.YtfakimleoihfgaaDoorPr9
import Derived.Test.YtfakimleoihfgaaDoorTopPure2
namespace Go.Proofs.YtfakimleoihfgaaDoor.Pure
open Go Go.RowKit Go.Proofs.YtfakimleoihfgaaDoor Go.Proofs.YtfakimleoihfgaaDoor.TP Go.Proofs.YtfakimleoihfgaaDoor.TW Go.Proofs.YtfakimleoihfgaaDoor.TF Go.Proofs.YtfakimleoihfgaaDoor.Pr Go.Proofs.YtfakimleoihfgaaDoorW.PrintWords
section
variable {a b c : ByteArray} (ha : a.size ≤ 200) (hb : b.size ≤ 200) (hc : c.size ≤ 200)
include ha hb hc
theorem order2 (k : Nat) : rivuletlaw03_TopicOrder.j2 (k + 1) a b c false = some true := by
  simp only [rivuletlaw03_TopicOrder.j2]
  rw [if_neg (by decide), tf_covers (by omega) (by omega), Option.bind_some]
  cases h1 : covB a b with
  | true =>
    rw [if_pos rfl, tf_meet (by omega) (by omega), Option.bind_some, order_meet h1, if_pos rfl, tf_meet (by omega) (by omega), Option.bind_some, ← order_symm a b, order_meet h1, if_pos (by decide), Option.bind_some, if_pos rfl, tf_match (by omega) (by omega), Option.bind_some]
    cases h2 : matchB b c with
    | true =>
      rw [if_pos rfl, tf_match (by omega) (by omega), Option.bind_some, order_let h1 h2, if_pos rfl]
      rfl
    | false =>
      rw [if_neg (by decide)]
      rfl
  | false =>
    rw [if_neg (by decide), tf_meet (by omega) (by omega), Option.bind_some, tf_meet (by omega) (by omega), Option.bind_some, order_symm b a, if_pos (by simp), Option.bind_some, if_neg (by decide)]
    rfl
theorem order1 (k : Nat) : rivuletlaw03_TopicOrder.j1 (k + 2) a b c false = some true := by
  simp only [rivuletlaw03_TopicOrder.j1]
  have o2 := order2 ha hb hc k
  rw [if_neg (by decide), tf_match (by omega) (by omega), Option.bind_some]
  cases h1 : matchB a c with
  | true =>
    rw [if_pos rfl, tf_match (by omega) (by omega), Option.bind_some]
    cases h2 : matchB b c with
    | true =>
      rw [if_pos rfl, tf_meet (by omega) (by omega), Option.bind_some, order_both h1 h2]
      exact o2
    | false =>
      rw [if_neg (by decide)]
      exact o2
  | false =>
    rw [if_neg (by decide)]
    exact o2
theorem order0 (k : Nat) : rivuletlaw03_TopicOrder.j0 (k + 3) a b c false = some true := by
  simp only [rivuletlaw03_TopicOrder.j0]
  have o1 := order1 ha hb hc k
  rw [if_neg (by decide), tf_covers (by omega) (by omega), Option.bind_some]
  cases h1 : covB a b with
  | true =>
    rw [if_pos rfl, tf_covers (by omega) (by omega), Option.bind_some]
    cases h2 : covB b c with
    | true =>
      rw [if_pos rfl, tf_covers (by omega) (by omega), Option.bind_some, order_trans h1 h2]
      exact o1
    | false =>
      rw [if_neg (by decide)]
      exact o1
  | false =>
    rw [if_neg (by decide)]
    exact o1
end
theorem TopicOrder : rivuletlaw03_TopicOrder.Pure := by
  intro a0 a1 a2 _ _ _
  obtain ⟨h0, h1, h2⟩ := cut200 a0
  obtain ⟨g0, g1, g2⟩ := cut200 a1
  obtain ⟨e0, e1, e2⟩ := cut200 a2
  refine ⟨4997 + 3, ?_⟩
  unfold rivuletlaw03_TopicOrder.f
  rw [if_pos h0, if_pos h1, if_pos g0, if_pos g1, if_pos e0, if_pos e1]
  generalize a0.extract 0 ((mn (a0.size : Int) 200) : Int).toNat = a at *
  generalize a1.extract 0 ((mn (a1.size : Int) 200) : Int).toNat = b at *
  generalize a2.extract 0 ((mn (a2.size : Int) 200) : Int).toNat = c at *
  have o := order0 h2 g2 e2 4997
  rw [tf_filter (by omega), Option.bind_some]
  cases hf : filterB a with
  | true =>
    obtain ⟨s1, s2⟩ := order_self hf
    rw [if_pos rfl, tf_covers (by omega) (by omega), Option.bind_some, s1, if_pos rfl, tf_meet (by omega) (by omega), Option.bind_some, s2]
    exact o
  | false =>
    rw [if_neg (by decide)]
    exact o
end Go.Proofs.YtfakimleoihfgaaDoor.Pure
