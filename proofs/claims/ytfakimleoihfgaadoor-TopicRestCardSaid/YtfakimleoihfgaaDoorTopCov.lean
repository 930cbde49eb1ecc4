/-
  Chapter 03: the program's covers and meet.
-/
import Derived.Test.YtfakimleoihfgaaDoorTopFilt
import Derived.Deep.RegionHeld3
namespace Go.Proofs.YtfakimleoihfgaaDoor.TW
open Go Go.RowKit Go.Proofs.YtfakimleoihfgaaDoor Go.Proofs.YtfakimleoihfgaaDoor.TP

/-- Levels in memory, from any place of a block on. -/
def IRow (w : World) (v : Value) (l : List ByteArray) : Prop :=
  (∃ o k, v = .slice o 0 k ∧ l = []) ∨ ∃ g off k, v = .slice (some ⟨g, off, none⟩) l.length k ∧ l.length ≤ k ∧ ∀ j (hj : j < l.length), w.cell? ⟨g, off + j, none⟩ = some (.string (l[j]'hj))
theorem cell_lt {w : World} {p : Addr} {v : Value} (h : w.cell? p = some v) : p.block < w.heap.size := by
  unfold World.cell? at h
  rcases Nat.lt_or_ge p.block w.heap.size with g | g
  · exact g
  · rw [Array.getElem?_eq_none g] at h
    cases h
theorem IRow.below {w w2 : World} {v : Value} {l : List ByteArray} (h : IRow w v l) (hb : Below w.heap.size w w2) : IRow w2 v l := by
  rcases h with h | ⟨g, off, k, rfl, hk, hc⟩
  · exact .inl h
  · exact .inr ⟨g, off, k, rfl, hk, fun j hj => (hb.cell (cell_lt (hc j hj))).trans (hc j hj)⟩
theorem IRow.drew {w : World} {v : Value} {l : List ByteArray} (h : IRow w v l) : IRow w.drew v l := h
theorem IRow.nil (w : World) (o : Option Addr) (k : Nat) : IRow w (.slice o 0 k) [] := .inl ⟨o, k, rfl, rfl⟩
theorem IRow.tail {w : World} {g off k : Nat} {x : ByteArray} {l : List ByteArray} (hk : l.length + 1 ≤ k) (hc : ∀ j (hj : j < (x :: l).length), w.cell? ⟨g, off + j, none⟩ = some (.string ((x :: l)[j]'hj))) : IRow w (.slice (some ⟨g, off + 1, none⟩) l.length (k - 1)) l :=
  .inr ⟨g, off + 1, k - 1, rfl, by omega, fun j hj => by
    have := hc (j + 1) (by simp; omega)
    simpa [Nat.add_assoc, Nat.add_comm 1 j] using this⟩
theorem IRow.own {w : World} {N : Nat} {v : Value} {l : List ByteArray} (h : w.ownsRow N 9 1 v l.length (l.map Value.string)) : IRow w v l := by
  by_cases h0 : 0 < l.length
  · obtain ⟨g, cap, rfl, _, _⟩ := h.form h0
    have hle : l.length ≤ cap := by
      rcases h.2 with ⟨e, _⟩ | ⟨g2, c2, cur, e, _, _, hle, _⟩
      · cases e
      · cases e; exact hle
    refine .inr ⟨g, 0, cap, rfl, hle, fun j hj => ?_⟩
    rw [Nat.zero_add, h.cellAt j (by omega)]
    simp [hj]
  · have hl : l = [] := List.eq_nil_of_length_eq_zero (by omega)
    subst hl
    rcases h.2 with ⟨rfl, _⟩ | ⟨g2, c2, cur, rfl, _⟩
    · exact .nil _ _ _
    · exact .nil _ _ _
theorem IRow.form {w : World} {v : Value} {l : List ByteArray} (h : IRow w v l) : ∃ o k, v = .slice o l.length k := by
  rcases h with ⟨o, k, rfl, rfl⟩ | ⟨g, off, k, rfl, _⟩
  · exact ⟨_, _, rfl⟩
  · exact ⟨_, _, rfl⟩

set_option maxHeartbeats 8000000 in
set_option maxRecDepth 100000 in
theorem covers_walk : ∀ (b a : List ByteArray) (d : Nat) (w : World) (va vb : Value), IRow w va a → IRow w vb b → a.length ≤ 1000000 → b.length + d ≤ 1000000 →
    Calls Tryd.prog 36 #[va, vb, .int .i64 d] w fun e w' => e = .returned (.bool (cov TP.one TP.rest a b d)) ∧ Below w.heap.size w w'
  | [], [], d, w, va, vb, ha, hb, _, _ => by
    obtain ⟨oa, ka, rfl⟩ := ha.form
    obtain ⟨ob, kb, rfl⟩ := hb.form
    clear ha hb
    simp only [List.length_nil]
    rw [show cov TP.one TP.rest [] [] d = true from rfl]
    go_enter Tryd.func36, Tryd.ntmps36
    go_wp2
    go_returns
    exact ⟨rfl, (Below.refl _ _)⟩
  | [], a0 :: a, d, w, va, vb, ha, hb, _, _ => by
    rcases ha with ⟨_, _, _, e⟩ | ⟨ga, fa, ka, rfl, hka, hca⟩
    · cases e
    obtain ⟨ob, kb, rfl⟩ := hb.form
    clear hb
    have c0 := hca 0 (by simp)
    simp only [List.getElem_cons_zero, Nat.add_zero] at c0
    simp only [List.length_nil, List.length_cons]
    clear hca hka
    have hre := is_rest a0
    by_cases h1 : a0 = TP.rest
    · replace hre : (a0.toList == [35]) = true := by rw [hre]; simpa using h1
      have e : cov TP.one TP.rest (a0 :: a) [] d = true := by simp [cov, h1]
      rw [e]
      clear h1 e
      go_enter Tryd.func36, Tryd.ntmps36
      go_wp2
      go_returns
      exact ⟨rfl, (Below.refl _ _)⟩
    · replace hre : (a0.toList == [35]) = false := by rw [hre]; simpa using h1
      have e : cov TP.one TP.rest (a0 :: a) [] d = false := by simp [cov, h1]
      rw [e]
      clear h1 e
      have q1 : ((a.length : Int) + 1 == 0) = false := by simp; omega
      go_enter Tryd.func36, Tryd.ntmps36
      go_wp2
      go_returns
      exact ⟨rfl, (Below.refl _ _)⟩
  | b0 :: b, [], d, w, va, vb, ha, hb, _, _ => by
    rcases hb with ⟨_, _, _, e⟩ | ⟨gb, fb, kb, rfl, hkb, hcb⟩
    · cases e
    obtain ⟨oa, ka, rfl⟩ := ha.form
    clear ha
    have c0 := hcb 0 (by simp)
    simp only [List.getElem_cons_zero, Nat.add_zero] at c0
    simp only [List.length_nil, List.length_cons]
    clear hcb hkb
    have hre := is_rest b0
    have q1 : ((b.length : Int) + 1 == 0) = false := by simp; omega
    have e : cov TP.one TP.rest [] (b0 :: b) d = false := by
      unfold cov
      simp
    rw [e]
    by_cases h1 : b0 = TP.rest
    · replace hre : (b0.toList == [35]) = true := by rw [hre]; simpa using h1
      clear h1 e
      by_cases hd : d = 0
      · subst hd
        go_enter Tryd.func36, Tryd.ntmps36
        go_wp2
        go_returns
        exact ⟨rfl, (Below.refl _ _)⟩
      · have hd2 : ((d : Int) == 0) = false := by simp; omega
        go_enter Tryd.func36, Tryd.ntmps36
        go_wp2
        go_returns
        exact ⟨rfl, (Below.refl _ _)⟩
    · replace hre : (b0.toList == [35]) = false := by rw [hre]; simpa using h1
      clear h1 e
      go_enter Tryd.func36, Tryd.ntmps36
      go_wp2
      go_region
      go_wp2
      go_returns
      exact ⟨rfl, (Below.refl _ _).drew⟩
  | b0 :: b, a0 :: a, d, w, va, vb, ha, hb, hla, hlb => by
    rcases ha with ⟨_, _, _, e⟩ | ⟨ga, fa, ka, rfl, hka, hca⟩
    · cases e
    rcases hb with ⟨_, _, _, e⟩ | ⟨gb, fb, kb, rfl, hkb, hcb⟩
    · cases e
    have ih := fun (w : World) (va vb : Value) (ha : IRow w va a) (hb : IRow w vb b) => covers_walk b a (d + 1) w va vb ha hb (by simp at hla; omega) (by simp at hlb; omega)
    rw [show ((d + 1 : Nat) : Int) = (d : Int) + 1 from rfl] at ih
    have c0 := hca 0 (by simp)
    have x0 := hcb 0 (by simp)
    simp only [List.getElem_cons_zero, Nat.add_zero] at c0 x0
    simp only [List.length_cons] at hka hkb hla hlb ⊢
    have hra := is_rest a0
    have hrb := is_rest b0
    have hoa := is_one a0
    have q0 : (0 : Int) < (a.length : Int) + 1 := by omega
    have q1 : ((b.length : Int) + 1 == 0) = false := by simp; omega
    have q2 : ((a.length : Int) + 1 == 0) = false := by simp; omega
    by_cases h1 : a0 = TP.rest
    · replace hra : (a0.toList == [35]) = true := by rw [hra]; simpa using h1
      have e : cov TP.one TP.rest (a0 :: a) (b0 :: b) d = true := by simp [cov, h1]
      rw [e]
      clear h1 e ih hca hcb
      go_enter Tryd.func36, Tryd.ntmps36
      go_wp2
      go_returns
      exact ⟨rfl, (Below.refl _ _)⟩
    replace hra : (a0.toList == [35]) = false := by rw [hra]; simpa using h1
    by_cases h2 : b0 = TP.rest
    · replace hrb : (b0.toList == [35]) = true := by rw [hrb]; simpa using h2
      clear ih
      by_cases hd : d = 0
      · subst hd
        by_cases hl : a.length = 1
        · obtain ⟨a1, rfl⟩ := List.length_eq_one_iff.1 hl
          have c1 := hca 1 (by simp)
          simp only [List.getElem_cons_succ, List.getElem_cons_zero] at c1
          simp only [List.length_cons, List.length_nil] at hka hla q0 q2 ⊢
          have hr1 := is_rest a1
          clear hca hcb hl
          by_cases h3 : a0 = TP.one
          · replace hoa : (a0.toList == [43]) = true := by rw [hoa]; simpa using h3
            by_cases h4 : a1 = TP.rest
            · replace hr1 : (a1.toList == [35]) = true := by rw [hr1]; simpa using h4
              have e : cov TP.one TP.rest [a0, a1] (b0 :: b) 0 = true := by
                unfold cov
                rw [if_neg (by simpa using h1), if_pos h2]
                simp [h3, h4]
              rw [e]
              clear h1 h2 h3 h4 e
              go_enter Tryd.func36, Tryd.ntmps36
              go_wp2
              go_returns
              exact ⟨rfl, (Below.refl _ _)⟩
            · replace hr1 : (a1.toList == [35]) = false := by rw [hr1]; simpa using h4
              have e : cov TP.one TP.rest [a0, a1] (b0 :: b) 0 = false := by
                unfold cov
                rw [if_neg (by simpa using h1), if_pos h2]
                simp [h4]
              rw [e]
              clear h1 h2 h3 h4 e
              go_enter Tryd.func36, Tryd.ntmps36
              go_wp2
              go_returns
              exact ⟨rfl, (Below.refl _ _)⟩
          · replace hoa : (a0.toList == [43]) = false := by rw [hoa]; simpa using h3
            have e : cov TP.one TP.rest [a0, a1] (b0 :: b) 0 = false := by
              unfold cov
              rw [if_neg (by simpa using h1), if_pos h2]
              simp [h3]
            rw [e]
            clear h1 h2 h3 e
            go_enter Tryd.func36, Tryd.ntmps36
            go_wp2
            go_returns
            exact ⟨rfl, (Below.refl _ _)⟩
        · have q3 : ((a.length : Int) + 1 == 2) = false := by simp; omega
          have e : cov TP.one TP.rest (a0 :: a) (b0 :: b) 0 = false := by
            unfold cov
            rw [if_neg (by simpa using h1), if_pos h2]
            have : a ≠ [TP.rest] := fun e => hl (by rw [e]; rfl)
            simp [this]
          rw [e]
          clear h1 h2 e hca hcb hl
          go_enter Tryd.func36, Tryd.ntmps36
          go_wp2
          go_returns
          exact ⟨rfl, (Below.refl _ _)⟩
      · have hd2 : ((d : Int) == 0) = false := by simp; omega
        have e : cov TP.one TP.rest (a0 :: a) (b0 :: b) d = false := by
          unfold cov
          rw [if_neg (by simpa using h1), if_pos h2]
          simp [hd]
        rw [e]
        clear h1 h2 e hca hcb
        go_enter Tryd.func36, Tryd.ntmps36
        go_wp2
        go_returns
        exact ⟨rfl, (Below.refl _ _)⟩
    replace hrb : (b0.toList == [35]) = false := by rw [hrb]; simpa using h2
    have hxy := toList_beq a0 b0
    by_cases h3 : a0 ≠ TP.one ∧ a0 ≠ b0
    · replace hoa : (a0.toList == [43]) = false := by rw [hoa]; simpa using h3.1
      replace hxy : (a0.toList == b0.toList) = false := by rw [hxy]; simpa using h3.2
      have e : cov TP.one TP.rest (a0 :: a) (b0 :: b) d = false := by
        unfold cov
        rw [if_neg (by simpa using h1), if_neg h2]
        simp only
        rw [if_pos h3]
      rw [e]
      clear h1 h2 h3 e hca hcb ih
      go_enter Tryd.func36, Tryd.ntmps36
      go_wp2
      go_region
      go_wp2
      go_returns
      exact ⟨rfl, (Below.refl _ _).drew⟩
    have e : cov TP.one TP.rest (a0 :: a) (b0 :: b) d = cov TP.one TP.rest a b (d + 1) := by
      conv => lhs; unfold cov
      rw [if_neg (by simpa using h1), if_neg h2]
      simp only
      rw [if_neg h3]
    rw [e]
    have h4 : a0 = TP.one ∨ (¬ a0 = TP.one ∧ a0 = b0) := by
      by_cases e : a0 = TP.one
      · exact .inl e
      · exact .inr ⟨e, Classical.not_not.1 fun g => h3 ⟨e, g⟩⟩
    generalize cov TP.one TP.rest a b (d + 1) = res at *
    have hdw : IntKind.i64.wrap ((d : Int) + 1) = (d : Int) + 1 := IntWalk.i64_in _ (by omega)
    have g1 : (1 : Int) ≤ (a.length : Int) + 1 := by omega
    have g2 : (1 : Int) ≤ (b.length : Int) + 1 := by omega
    have g3 : (a.length : Int) + 1 ≤ ka := by omega
    have g4 : (b.length : Int) + 1 ≤ kb := by omega
    have g5 : (1 : Int) ≤ ka := by omega
    have g6 : (1 : Int) ≤ kb := by omega
    have g7 : 0 < ka := by omega
    have g8 : 0 < kb := by omega
    have ta : ∃ va2, IRow w va2 a ∧ ((ka = 1 ∧ va2 = .slice (some ⟨ga, fa, none⟩) a.length 0) ∨ (¬ ka = 1 ∧ va2 = .slice (some ⟨ga, fa + 1, none⟩) a.length (ka - 1))) := by
      by_cases hk : ka = 1
      · have ha0 : a = [] := List.eq_nil_of_length_eq_zero (by omega)
        subst ha0
        exact ⟨_, .nil _ _ _, .inl ⟨hk, rfl⟩⟩
      · exact ⟨_, .tail hka hca, .inr ⟨hk, rfl⟩⟩
    have tb : ∃ vb2, IRow w vb2 b ∧ ((kb = 1 ∧ vb2 = .slice (some ⟨gb, fb, none⟩) b.length 0) ∨ (¬ kb = 1 ∧ vb2 = .slice (some ⟨gb, fb + 1, none⟩) b.length (kb - 1))) := by
      by_cases hk : kb = 1
      · have ha0 : b = [] := List.eq_nil_of_length_eq_zero (by omega)
        subst ha0
        exact ⟨_, .nil _ _ _, .inl ⟨hk, rfl⟩⟩
      · exact ⟨_, .tail hkb hcb, .inr ⟨hk, rfl⟩⟩
    obtain ⟨va2, hra2, hva⟩ := ta
    obtain ⟨vb2, hrb2, hvb⟩ := tb
    have ih2 := ih w.drew.drew va2 vb2 hra2 hrb2
    have k3 : ka - (1 + a.length) + a.length = ka - 1 := by omega
    have k4 : kb - (1 + b.length) + b.length = kb - 1 := by omega
    clear ih e h1 h2 h3 hca hcb hra2 hrb2
    rcases h4 with h4 | ⟨h4, h5⟩
    · replace hoa : (a0.toList == [43]) = true := by rw [hoa]; simpa using h4
      clear h4 hxy
      rcases hva with ⟨hk1, rfl⟩ | ⟨hk1, rfl⟩
      all_goals
        rcases hvb with ⟨hk2, rfl⟩ | ⟨hk2, rfl⟩
        all_goals
          go_enter Tryd.func36, Tryd.ntmps36
          go_wp2
          go_region
          go_wp2
          go_region_held3 (fun _ => True) (trivial) (first
            | (go_at_call 36; (with_reducible refine ih2.mono ?_); rintro e w3 ⟨rfl, hb3⟩))
          go_wp2
          go_returns
          exact ⟨rfl, ((Below.refl _ w).drew.drew).trans hb3⟩
    · replace hoa : (a0.toList == [43]) = false := by rw [hoa]; simpa using h4
      replace hxy : (a0.toList == b0.toList) = true := by rw [hxy]; simpa using h5
      clear h4 h5
      rcases hva with ⟨hk1, rfl⟩ | ⟨hk1, rfl⟩
      all_goals
        rcases hvb with ⟨hk2, rfl⟩ | ⟨hk2, rfl⟩
        all_goals
          go_enter Tryd.func36, Tryd.ntmps36
          go_wp2
          go_region
          go_wp2
          go_region_held3 (fun _ => True) (trivial) (first
            | (go_at_call 36; (with_reducible refine ih2.mono ?_); rintro e w3 ⟨rfl, hb3⟩))
          go_wp2
          go_returns
          exact ⟨rfl, ((Below.refl _ w).drew.drew).trans hb3⟩
end Go.Proofs.YtfakimleoihfgaaDoor.TW
