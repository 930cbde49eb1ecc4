/-
  The statement TopicRest, over numbers and lists: a filter with # behind it.
-/
import Derived.Test.YtfakimleoihfgaaDoorPr13
import Derived.Test.YtfakimleoihfgaaDoorTopPure2
namespace Go.Proofs.YtfakimleoihfgaaDoor.Pure
open Go Go.RowKit Go.Proofs.YtfakimleoihfgaaDoor Go.Proofs.YtfakimleoihfgaaDoor.TP Go.Proofs.YtfakimleoihfgaaDoor.TW Go.Proofs.YtfakimleoihfgaaDoor.TF Go.Proofs.YtfakimleoihfgaaDoor.Pr Go.Proofs.YtfakimleoihfgaaDoorW.PrintWords
/-- Some first levels, from a number on. -/
def someTo (f s : ByteArray) (i : Nat) : Bool := (List.range i).any fun i => matchB f (jn ((lv s).take (i + 1)))
theorem someTo_step (f s : ByteArray) (i : Nat) : someTo f s (i + 1) = (someTo f s i || matchB f (jn ((lv s).take (i + 1)))) := by
  unfold someTo
  rw [List.range_succ, List.any_append]
  simp
theorem rest_loop {f g s : ByteArray} (hf : f.size ≤ 150) (hgs : g.size ≤ 152) (hs : s.size ≤ 150) (hg : lv g = lv f ++ [TP.rest]) (h1 : filterB g = true) (h2 : filterB f = true) :
    ∀ (d k i : Nat), i + d = (lv s).length → d + 2 ≤ k → rivuletlaw03_TopicRest.l0 k f s g (lv s) (someTo f s i) (jn ((lv s).take i)) i = some true := by
  have hll := lv_len s
  intro d
  induction d with
  | zero =>
    intro k i hi hk
    obtain ⟨k, rfl⟩ : ∃ m, k = m + 1 := ⟨k - 1, by omega⟩
    have hr := rest_law (s := s) hg h1 h2
    have hsm : someB f s = someTo f s i := by unfold someB someTo; rw [show (lv s).length = i by omega]
    rw [hsm] at hr
    have hc1 := rest_cov hg h1 h2
    have hc2 := (order_self h1).1
    simp only [rivuletlaw03_TopicRest.l0]
    rw [if_neg (by omega), tf_match (by omega) (by omega), Option.bind_some, hr]
    cases hst : someTo f s i with
    | true =>
      rw [if_pos rfl, tf_right (by omega), Option.bind_some, if_pos (by simp), tf_covers (by omega) (by omega), Option.bind_some, hc1, if_pos rfl, tf_covers (by omega) (by omega), Option.bind_some, hc2, if_pos rfl]
      rfl
    | false =>
      rw [if_neg (by decide), if_pos (by simp), tf_covers (by omega) (by omega), Option.bind_some, hc1, if_pos rfl, tf_covers (by omega) (by omega), Option.bind_some, hc2, if_pos rfl]
      rfl
  | succ d ih =>
    intro k i hi hk
    obtain ⟨k, rfl⟩ : ∃ m, k = m + 1 := ⟨k - 1, by omega⟩
    have hil : i < (lv s).length := by omega
    have hx := lv_size (List.getElem_mem hil)
    have szof : ∀ j, j ≤ (lv s).length → (jn ((lv s).take j)).size ≤ 30000 := fun j hj => by
      have h1 := jn_size 150 ((lv s).take j) (fun x hx => by have := lv_size (List.mem_of_mem_take hx); omega)
      have h2 : ((lv s).take j).length ≤ 151 := by rw [List.length_take]; omega
      have h3 := Nat.mul_le_mul_right (150 + 1) h2
      omega
    have hz0 := szof i (by omega)
    have hz1 := szof (i + 1) (by omega)
    have hq := ih k (i + 1) (by omega) (by omega)
    rw [someTo_step] at hq
    have htk : (lv s).take (i + 1) = (lv s).take i ++ [(lv s)[i]'hil] := List.take_succ_eq_append_getElem hil
    simp only [rivuletlaw03_TopicRest.l0]
    rw [if_pos (by omega)]
    by_cases h0 : i = 0
    · subst h0
      rw [htk, List.take_zero, List.nil_append, jn_one] at hq hz1
      rw [List.take_zero, jn_nil, if_neg (by omega), if_pos (by omega), rd_at _ hil, w1 (by omega), if_pos (by show 0 + _ ≤ _; omega)]
      cases hst : someTo f s 0 with
      | true =>
        rw [hst, Bool.true_or] at hq
        rw [if_pos rfl]
        exact hq
      | false =>
        rw [hst, Bool.false_or] at hq
        rw [if_neg (by decide), tf_match (by omega) (by omega), Option.bind_some]
        exact hq
    · have hne : (lv s).take i ≠ [] := fun e => by
        have := congrArg List.length e
        rw [List.length_take, List.length_nil] at this
        omega
      rw [htk, jn_snoc _ _ hne] at hq hz1
      have e1 : (jn ((lv s).take i) ++ (⟨#[47]⟩ : ByteArray)).size = (jn ((lv s).take i)).size + 1 := by rw [ByteArray.size_append]; rfl
      rw [if_pos (by omega), if_pos (by omega), if_pos (by omega), rd_at _ hil, w1 (by omega), e1, if_pos (by omega)]
      cases hst : someTo f s i with
      | true =>
        rw [hst, Bool.true_or] at hq
        rw [if_pos rfl]
        exact hq
      | false =>
        rw [hst, Bool.false_or] at hq
        rw [if_neg (by decide), tf_match (by omega) (by omega), Option.bind_some]
        exact hq
theorem TopicRest : rivuletlaw03_TopicRest.Pure := by
  intro a0 a1 _ _
  obtain ⟨h0, h1, h2⟩ := cut150 a0
  obtain ⟨g0, g1, g2⟩ := cut150 a1
  refine ⟨4999 + 1, ?_⟩
  unfold rivuletlaw03_TopicRest.f
  rw [if_pos h0, if_pos h1, if_pos g0, if_pos g1]
  generalize a0.extract 0 ((mn (a0.size : Int) 150) : Int).toNat = f at *
  generalize a1.extract 0 ((mn (a1.size : Int) 150) : Int).toNat = s at *
  have em : f ++ (⟨#[47, 35]⟩ : ByteArray) = more f := by
    apply ba_ext
    unfold more
    simp
  have hm : (more f).size ≤ 152 := by rw [← em, ByteArray.size_append, show (⟨#[47, 35]⟩ : ByteArray).size = 2 from rfl]; omega
  have hg := lv_more f
  have hll := lv_len s
  rw [if_pos (by omega), em]
  generalize more f = g at *
  have no : (filterB g = false ∨ filterB f = false) → rivuletlaw03_TopicRest.j0 (4999 + 1) f s g true = some true := fun h => by
    simp only [rivuletlaw03_TopicRest.j0]
    rw [if_pos trivial, tf_match (by omega) (by omega), Option.bind_some, rest_not hg h, if_neg (by decide)]
    rfl
  rw [tf_filter (by omega), Option.bind_some]
  cases hfg : filterB g with
  | false =>
    rw [if_neg (by decide)]
    exact no (.inl hfg)
  | true =>
    rw [if_pos rfl, tf_filter (by omega), Option.bind_some]
    cases hff : filterB f with
    | false => exact no (.inr hff)
    | true =>
      simp only [rivuletlaw03_TopicRest.j0]
      rw [if_neg (by decide), levels_f (by omega) (by omega), Option.bind_some]
      exact rest_loop h2 hm g2 hg hfg hff (lv s).length 4999 0 (by omega) (by omega)
end Go.Proofs.YtfakimleoihfgaaDoor.Pure
