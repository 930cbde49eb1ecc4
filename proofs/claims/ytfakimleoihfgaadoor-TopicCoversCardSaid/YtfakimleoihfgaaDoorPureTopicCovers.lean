/-
  The statement TopicCovers, over numbers and lists: covering by topics of a name of its own.
-/
import Derived.Test.YtfakimleoihfgaaDoorPr8
import Derived.Test.YtfakimleoihfgaaDoorTopPure2
namespace Go.Proofs.YtfakimleoihfgaaDoor.Pure
open Go Go.RowKit Go.Proofs.YtfakimleoihfgaaDoor Go.Proofs.YtfakimleoihfgaaDoor.TP Go.Proofs.YtfakimleoihfgaaDoor.TW Go.Proofs.YtfakimleoihfgaaDoor.TF Go.Proofs.YtfakimleoihfgaaDoor.Pr Go.Proofs.YtfakimleoihfgaaDoorW.PrintWords
/-- All rows of up to n levels (less one) are let by. -/
def allTo (a b : ByteArray) (n : Nat) : Bool := (List.range' 1 (n - 1)).all fun n => !(freshB b n).2 || matchB a (freshB b n).1
theorem allTo_step (a b : ByteArray) {n : Nat} (h : 1 ≤ n) : allTo a b (n + 1) = (allTo a b n && (!(freshB b n).2 || matchB a (freshB b n).1)) := by
  unfold allTo
  rw [show n + 1 - 1 = (n - 1) + 1 by omega, List.range'_concat, List.all_append]
  simp only [List.all_cons, List.all_nil, Bool.and_true, Nat.one_mul]
  rw [show 1 + (n - 1) = n by omega]
theorem cov_end {a b : ByteArray} (ha : a.size ≤ 200) (hb : b.size ≤ 200) (hfa : filterB a = true) (hfb : filterB b = true) (hz : ∀ c ∈ lv a, c ≠ zz) :
    ∀ (d n k : Nat), n + d = 9 → 1 ≤ n → 4000 + d ≤ k → rivuletlaw03_TopicCovers.l1 k a b (allTo a b n) n = some true := by
  intro d
  induction d with
  | zero =>
    intro n k hn h1 hk
    obtain ⟨k, rfl⟩ : ∃ m, k = m + 1 := ⟨k - 1, by omega⟩
    obtain rfl : n = 9 := by omega
    have e : covB a b = allTo a b 9 := fresh_all hfa hfb hz
    simp only [rivuletlaw03_TopicCovers.l1]
    rw [if_neg (by omega), tf_covers (by omega) (by omega), Option.bind_some, e, if_pos (by simp)]
    rfl
  | succ d ih =>
    intro n k hn h1 hk
    obtain ⟨k, rfl⟩ : ∃ m, k = m + 1 := ⟨k - 1, by omega⟩
    have hq := ih (n + 1) k (by omega) (by omega) (by omega)
    rw [allTo_step a b h1] at hq
    have hsz := freshB_size hb (n := n) (by omega)
    simp only [rivuletlaw03_TopicCovers.l1]
    rw [if_pos (by omega), fresh_f hb (by omega) (by omega), Option.bind_some, w1 (by omega)]
    cases hf : (freshB b n).2 with
    | true =>
      obtain ⟨m1, m2⟩ := fresh_ok hfb h1 (by omega) hf
      rw [if_pos rfl, tf_match (by omega) (by omega), Option.bind_some, m1, if_pos rfl, tf_right (by omega), Option.bind_some, m2, if_pos rfl]
      rw [hf] at hq
      cases ht : allTo a b n with
      | true =>
        rw [ht] at hq
        rw [if_pos rfl, tf_match (by omega) (by omega), Option.bind_some]
        simpa using hq
      | false =>
        rw [ht] at hq
        rw [if_neg (by decide)]
        simpa using hq
    | false =>
      rw [if_neg (by decide)]
      rw [hf] at hq
      cases ht : allTo a b n with
      | true =>
        rw [ht] at hq
        rw [if_pos rfl]
        simpa using hq
      | false =>
        rw [ht] at hq
        rw [if_neg (by decide)]
        simpa using hq
theorem cov_zz {a b : ByteArray} (ha : a.size ≤ 200) (hb : b.size ≤ 200) (hfa : filterB a = true) (hfb : filterB b = true) :
    ∀ (d k i : Nat), i + d = (lv a).length → (∀ j (h : j < (lv a).length), j < i → (lv a)[j]'h ≠ zz) → 4010 + d ≤ k → rivuletlaw03_TopicCovers.l0 k a b (lv a) i = some true := by
  have hll := lv_len a
  intro d
  induction d with
  | zero =>
    intro k i hi hno hk
    obtain ⟨k, rfl⟩ : ∃ m, k = m + 1 := ⟨k - 1, by omega⟩
    simp only [rivuletlaw03_TopicCovers.l0]
    rw [if_neg (by omega)]
    exact cov_end ha hb hfa hfb (fun c hc => by
      obtain ⟨j, hj, rfl⟩ := List.getElem_of_mem hc
      exact hno j hj (by omega)) 8 1 k (by omega) (by omega) (by omega)
  | succ d ih =>
    intro k i hi hno hk
    obtain ⟨k, rfl⟩ : ∃ m, k = m + 1 := ⟨k - 1, by omega⟩
    have hil : i < (lv a).length := by omega
    simp only [rivuletlaw03_TopicCovers.l0]
    rw [if_pos (by omega), if_pos (by omega), rd_at _ hil, w1 (by omega)]
    by_cases h : (lv a)[i]'hil = zz
    · rw [if_pos (tl_zz.2 h)]
      rfl
    · rw [if_neg (fun g => h (tl_zz.1 g))]
      refine ih k (i + 1) (by omega) (fun j hj hji => ?_) (by omega)
      by_cases e : j = i
      · subst e; exact h
      · exact hno j hj (by omega)
theorem TopicCovers : rivuletlaw03_TopicCovers.Pure := by
  intro a0 a1 _ _
  obtain ⟨h0, h1, h2⟩ := cut200 a0
  obtain ⟨g0, g1, g2⟩ := cut200 a1
  refine ⟨5999 + 1, ?_⟩
  unfold rivuletlaw03_TopicCovers.f
  rw [if_pos h0, if_pos h1, if_pos g0, if_pos g1]
  generalize a0.extract 0 ((mn (a0.size : Int) 200) : Int).toNat = a at *
  generalize a1.extract 0 ((mn (a1.size : Int) 200) : Int).toNat = b at *
  have hll := lv_len a
  have no : (filterB a = false ∨ filterB b = false) → rivuletlaw03_TopicCovers.j0 (5999 + 1) a b true = some true := fun h => by
    have c1 : covB a b = false := by unfold covB; rcases h with h | h <;> simp [h]
    have c2 : mtB a b = false := by unfold mtB; rcases h with h | h <;> simp [h]
    simp only [rivuletlaw03_TopicCovers.j0]
    rw [if_pos trivial, tf_covers (by omega) (by omega), Option.bind_some, c1, if_neg (by decide), tf_meet (by omega) (by omega), Option.bind_some, c2, if_neg (by decide)]
    rfl
  rw [tf_filter (by omega), Option.bind_some]
  cases hfa : filterB a with
  | false =>
    rw [if_neg (by decide)]
    exact no (.inl hfa)
  | true =>
    rw [if_pos rfl, tf_filter (by omega), Option.bind_some]
    cases hfb : filterB b with
    | false => exact no (.inr hfb)
    | true =>
      simp only [rivuletlaw03_TopicCovers.j0]
      rw [if_neg (by decide), levels_f (by omega) (by omega), Option.bind_some]
      exact cov_zz h2 g2 hfa hfb (lv a).length 5999 0 (by omega) (fun j _ h => by omega) (by omega)
end Go.Proofs.YtfakimleoihfgaaDoor.Pure
