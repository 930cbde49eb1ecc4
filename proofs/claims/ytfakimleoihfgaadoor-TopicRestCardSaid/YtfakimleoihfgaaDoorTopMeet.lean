/-
  Chapter 03: the program's meet, Covers, Meet.
-/
import Derived.Test.YtfakimleoihfgaaDoorTopCov
namespace Go.Proofs.YtfakimleoihfgaaDoor.TW
open Go Go.RowKit Go.Proofs.YtfakimleoihfgaaDoor Go.Proofs.YtfakimleoihfgaaDoor.TP


set_option maxHeartbeats 8000000 in
set_option maxRecDepth 100000 in
theorem meet_walk : ∀ (b a : List ByteArray) (w : World) (va vb : Value), IRow w va a → IRow w vb b → a.length ≤ 1000000 → b.length ≤ 1000000 →
    Calls Tryd.prog 37 #[va, vb] w fun e w' => e = .returned (.bool (TP.mt TP.one TP.rest a b)) ∧ Below w.heap.size w w'
  | [], [], w, va, vb, ha, hb, _, _ => by
    obtain ⟨oa, ka, rfl⟩ := ha.form
    obtain ⟨ob, kb, rfl⟩ := hb.form
    clear ha hb
    simp only [List.length_nil]
    rw [show TP.mt TP.one TP.rest [] [] = true from rfl]
    go_enter Tryd.func37, Tryd.ntmps37
    go_wp2
    go_returns
    exact ⟨rfl, (Below.refl _ _)⟩
  | [], a0 :: a, w, va, vb, ha, hb, _, _ => by
    rcases ha with ⟨_, _, _, e⟩ | ⟨ga, fa, ka, rfl, hka, hca⟩
    · cases e
    obtain ⟨ob, kb, rfl⟩ := hb.form
    clear hb
    have c0 := hca 0 (by simp)
    simp only [List.getElem_cons_zero, Nat.add_zero] at c0
    simp only [List.length_nil, List.length_cons]
    clear hca hka
    have hre := is_rest a0
    have q0 : (0 : Int) < (a.length : Int) + 1 := by omega
    have q1 : ((a.length : Int) + 1 == 0) = false := by simp; omega
    by_cases h1 : a0 = TP.rest
    · replace hre : (a0.toList == [35]) = true := by rw [hre]; simpa using h1
      have e : TP.mt TP.one TP.rest (a0 :: a) [] = true := by simp [TP.mt, h1]
      rw [e]
      clear h1 e
      go_enter Tryd.func37, Tryd.ntmps37
      go_wp2
      go_returns
      exact ⟨rfl, (Below.refl _ _)⟩
    · replace hre : (a0.toList == [35]) = false := by rw [hre]; simpa using h1
      have e : TP.mt TP.one TP.rest (a0 :: a) [] = false := by simp [TP.mt, h1]
      rw [e]
      clear h1 e
      go_enter Tryd.func37, Tryd.ntmps37
      go_wp2
      go_returns
      exact ⟨rfl, (Below.refl _ _)⟩
  | b0 :: b, [], w, va, vb, ha, hb, _, _ => by
    rcases hb with ⟨_, _, _, e⟩ | ⟨gb, fb, kb, rfl, hkb, hcb⟩
    · cases e
    obtain ⟨oa, ka, rfl⟩ := ha.form
    clear ha
    have c0 := hcb 0 (by simp)
    simp only [List.getElem_cons_zero, Nat.add_zero] at c0
    simp only [List.length_nil, List.length_cons]
    clear hcb hkb
    have hre := is_rest b0
    have q0 : (0 : Int) < (b.length : Int) + 1 := by omega
    have q1 : ((b.length : Int) + 1 == 0) = false := by simp; omega
    have q2 : ((0 : Int) == (b.length : Int) + 1) = false := by simp; omega
    by_cases h1 : b0 = TP.rest
    · replace hre : (b0.toList == [35]) = true := by rw [hre]; simpa using h1
      have e : TP.mt TP.one TP.rest [] (b0 :: b) = true := by simp [TP.mt, h1]
      rw [e]
      clear h1 e
      go_enter Tryd.func37, Tryd.ntmps37
      go_wp2
      go_returns
      exact ⟨rfl, (Below.refl _ _)⟩
    · replace hre : (b0.toList == [35]) = false := by rw [hre]; simpa using h1
      have e : TP.mt TP.one TP.rest [] (b0 :: b) = false := by simp [TP.mt, h1]
      rw [e]
      clear h1 e
      go_enter Tryd.func37, Tryd.ntmps37
      go_wp2
      go_returns
      exact ⟨rfl, (Below.refl _ _)⟩
  | b0 :: b, a0 :: a, w, va, vb, ha, hb, hla, hlb => by
    rcases ha with ⟨_, _, _, e⟩ | ⟨ga, fa, ka, rfl, hka, hca⟩
    · cases e
    rcases hb with ⟨_, _, _, e⟩ | ⟨gb, fb, kb, rfl, hkb, hcb⟩
    · cases e
    have ih := fun (w : World) (va vb : Value) (ha : IRow w va a) (hb : IRow w vb b) => meet_walk b a w va vb ha hb (by simp at hla; omega) (by simp at hlb; omega)
    have c0 := hca 0 (by simp)
    have x0 := hcb 0 (by simp)
    simp only [List.getElem_cons_zero, Nat.add_zero] at c0 x0
    simp only [List.length_cons] at hka hkb hla hlb ⊢
    have hra := is_rest a0
    have hrb := is_rest b0
    have hoa := is_one a0
    have hob := is_one b0
    have q0 : (0 : Int) < (a.length : Int) + 1 := by omega
    have q3 : (0 : Int) < (b.length : Int) + 1 := by omega
    have q1 : ((b.length : Int) + 1 == 0) = false := by simp; omega
    have q2 : ((a.length : Int) + 1 == 0) = false := by simp; omega
    by_cases h1 : a0 = TP.rest
    · replace hra : (a0.toList == [35]) = true := by rw [hra]; simpa using h1
      have e : TP.mt TP.one TP.rest (a0 :: a) (b0 :: b) = true := by simp [TP.mt, h1]
      rw [e]
      clear h1 e ih hca hcb
      go_enter Tryd.func37, Tryd.ntmps37
      go_wp2
      go_returns
      exact ⟨rfl, (Below.refl _ _)⟩
    replace hra : (a0.toList == [35]) = false := by rw [hra]; simpa using h1
    by_cases h2 : b0 = TP.rest
    · replace hrb : (b0.toList == [35]) = true := by rw [hrb]; simpa using h2
      have e : TP.mt TP.one TP.rest (a0 :: a) (b0 :: b) = true := by
        unfold TP.mt
        rw [if_neg (by simpa using h1), if_pos h2]
      rw [e]
      clear h1 h2 e ih hca hcb
      go_enter Tryd.func37, Tryd.ntmps37
      go_wp2
      go_returns
      exact ⟨rfl, (Below.refl _ _)⟩
    replace hrb : (b0.toList == [35]) = false := by rw [hrb]; simpa using h2
    have hxy := toList_beq a0 b0
    by_cases h3 : a0 ≠ TP.one ∧ b0 ≠ TP.one ∧ a0 ≠ b0
    · replace hoa : (a0.toList == [43]) = false := by rw [hoa]; simpa using h3.1
      replace hob : (b0.toList == [43]) = false := by rw [hob]; simpa using h3.2.1
      replace hxy : (a0.toList == b0.toList) = false := by rw [hxy]; simpa using h3.2.2
      have e : TP.mt TP.one TP.rest (a0 :: a) (b0 :: b) = false := by
        unfold TP.mt
        rw [if_neg (by simpa using h1), if_neg h2]
        simp only
        rw [if_pos h3]
      rw [e]
      clear h1 h2 h3 e hca hcb ih
      go_enter Tryd.func37, Tryd.ntmps37
      go_wp2
      go_region
      go_wp2
      go_returns
      exact ⟨rfl, (Below.refl _ _).drew⟩
    have e : TP.mt TP.one TP.rest (a0 :: a) (b0 :: b) = TP.mt TP.one TP.rest a b := by
      conv => lhs; unfold TP.mt
      rw [if_neg (by simpa using h1), if_neg h2]
      simp only
      rw [if_neg h3]
    rw [e]
    have h4 : a0 = TP.one ∨ (¬ a0 = TP.one ∧ b0 = TP.one) ∨ (¬ a0 = TP.one ∧ ¬ b0 = TP.one ∧ a0 = b0) := by
      by_cases e : a0 = TP.one
      · exact .inl e
      · by_cases e2 : b0 = TP.one
        · exact .inr (.inl ⟨e, e2⟩)
        · exact .inr (.inr ⟨e, e2, Classical.not_not.1 fun g => h3 ⟨e, e2, g⟩⟩)
    generalize TP.mt TP.one TP.rest a b = res at *
    have g1 : (1 : Int) ≤ (a.length : Int) + 1 := by omega
    have g2 : (1 : Int) ≤ (b.length : Int) + 1 := by omega
    have g3 : (a.length : Int) + 1 ≤ ka := by omega
    have g4 : (b.length : Int) + 1 ≤ kb := by omega
    have g5 : (1 : Int) ≤ ka := by omega
    have g6 : (1 : Int) ≤ kb := by omega
    have g7 : 0 < ka := by omega
    have g8 : 0 < kb := by omega
    have ta : ∃ va2, IRow w va2 a ∧ ((ka = 1 ∧ va2 = .slice (some ⟨ga, fa, none⟩) a.length 0) ∨ (¬ ka = 1 ∧ va2 = .slice (some ⟨ga, fa + 1, none⟩) a.length (ka - 1))) := by
      by_cases hk : ka = 1
      · have ha0 : a = [] := List.eq_nil_of_length_eq_zero (by omega)
        subst ha0
        exact ⟨_, .nil _ _ _, .inl ⟨hk, rfl⟩⟩
      · exact ⟨_, .tail hka hca, .inr ⟨hk, rfl⟩⟩
    have tb : ∃ vb2, IRow w vb2 b ∧ ((kb = 1 ∧ vb2 = .slice (some ⟨gb, fb, none⟩) b.length 0) ∨ (¬ kb = 1 ∧ vb2 = .slice (some ⟨gb, fb + 1, none⟩) b.length (kb - 1))) := by
      by_cases hk : kb = 1
      · have ha0 : b = [] := List.eq_nil_of_length_eq_zero (by omega)
        subst ha0
        exact ⟨_, .nil _ _ _, .inl ⟨hk, rfl⟩⟩
      · exact ⟨_, .tail hkb hcb, .inr ⟨hk, rfl⟩⟩
    obtain ⟨va2, hra2, hva⟩ := ta
    obtain ⟨vb2, hrb2, hvb⟩ := tb
    have ih2 := ih w.drew.drew va2 vb2 hra2 hrb2
    have k3 : ka - (1 + a.length) + a.length = ka - 1 := by omega
    have k4 : kb - (1 + b.length) + b.length = kb - 1 := by omega
    clear ih e h1 h2 h3 hca hcb hra2 hrb2
    rcases h4 with h4 | ⟨h4, h5⟩ | ⟨h4, h5, h6⟩
    · replace hoa : (a0.toList == [43]) = true := by rw [hoa]; simpa using h4
      clear h4 hxy hob
      rcases hva with ⟨hk1, rfl⟩ | ⟨hk1, rfl⟩
      all_goals
        rcases hvb with ⟨hk2, rfl⟩ | ⟨hk2, rfl⟩
        all_goals
          go_enter Tryd.func37, Tryd.ntmps37
          go_wp2
          go_region
          go_wp2
          go_region_held3 (fun _ => True) (trivial) (first
            | (go_at_call 37; (with_reducible refine ih2.mono ?_); rintro e w3 ⟨rfl, hb3⟩))
          go_wp2
          go_returns
          exact ⟨rfl, ((Below.refl _ w).drew.drew).trans hb3⟩
    · replace hoa : (a0.toList == [43]) = false := by rw [hoa]; simpa using h4
      replace hob : (b0.toList == [43]) = true := by rw [hob]; simpa using h5
      clear h4 h5 hxy
      rcases hva with ⟨hk1, rfl⟩ | ⟨hk1, rfl⟩
      all_goals
        rcases hvb with ⟨hk2, rfl⟩ | ⟨hk2, rfl⟩
        all_goals
          go_enter Tryd.func37, Tryd.ntmps37
          go_wp2
          go_region
          go_wp2
          go_region_held3 (fun _ => True) (trivial) (first
            | (go_at_call 37; (with_reducible refine ih2.mono ?_); rintro e w3 ⟨rfl, hb3⟩))
          go_wp2
          go_returns
          exact ⟨rfl, ((Below.refl _ w).drew.drew).trans hb3⟩
    · replace hoa : (a0.toList == [43]) = false := by rw [hoa]; simpa using h4
      replace hob : (b0.toList == [43]) = false := by rw [hob]; simpa using h5
      replace hxy : (a0.toList == b0.toList) = true := by rw [hxy]; simpa using h6
      clear h4 h5 h6
      rcases hva with ⟨hk1, rfl⟩ | ⟨hk1, rfl⟩
      all_goals
        rcases hvb with ⟨hk2, rfl⟩ | ⟨hk2, rfl⟩
        all_goals
          go_enter Tryd.func37, Tryd.ntmps37
          go_wp2
          go_region
          go_wp2
          go_region_held3 (fun _ => True) (trivial) (first
            | (go_at_call 37; (with_reducible refine ih2.mono ?_); rintro e w3 ⟨rfl, hb3⟩))
          go_wp2
          go_returns
          exact ⟨rfl, ((Below.refl _ w).drew.drew).trans hb3⟩

theorem levels_irow (s : ByteArray) (hs : s.size ≤ 1000000) (w : World) :
    Calls Tryd.prog 16 #[.string s] w fun e w' => ∃ v, e = .returned v ∧ IRow w' v (lv s) ∧ Below w.heap.size w w' := by
  refine (levels_walk s hs w).mono ?_
  rintro e w2 ⟨o, k, rfl, hr, hb⟩
  exact ⟨_, rfl, .own hr, hb⟩

theorem covers0 (b a : List ByteArray) (w : World) (va vb : Value) (ha : IRow w va a) (hb : IRow w vb b) (hla : a.length ≤ 1000000) (hlb : b.length + 0 ≤ 1000000) :
    Calls Tryd.prog 36 #[va, vb, .int .i64 0] w fun e w' => e = .returned (.bool (cov TP.one TP.rest a b 0)) ∧ Below w.heap.size w w' := covers_walk b a 0 w va vb ha hb hla hlb

set_option maxHeartbeats 4000000 in
theorem coversB_walk (s t : ByteArray) (hs : s.size ≤ 900000) (ht : t.size ≤ 900000) (w : World) : Calls Tryd.prog 23 #[.string s, .string t] w fun e w' => e = .returned (.bool (covB s t)) ∧ Below w.heap.size w w' := by
  have hf := fun w => filter_walk s hs w
  have hg := fun w => filter_walk t ht w
  unfold covB
  cases e1 : filterB s with
  | false =>
    rw [e1] at hf
    clear hg
    go_enter Tryd.func23, Tryd.ntmps23
    go_wp2_with (go_at_call 13; (with_reducible refine (hf _).mono ?_); rintro e w2 ⟨rfl, hb⟩)
    go_returns
    exact ⟨rfl, hb⟩
  | true =>
    rw [e1] at hf
    cases e2 : filterB t with
    | false =>
      rw [e2] at hg
      go_enter Tryd.func23, Tryd.ntmps23
      go_wp2_with (first
        | (go_at_call 13; (with_reducible refine (hf _).mono ?_); rintro e w2 ⟨rfl, hb⟩; clear hf)
        | (go_at_call 13; (with_reducible refine (hg _).mono ?_); rintro e w3 ⟨rfl, hb2⟩
           have hb3 := hb.trans (hb2.mono hb.size)))
      go_returns
      exact ⟨rfl, hb3⟩
    | true =>
      rw [e2] at hg
      have hl1 := fun w => levels_irow s (by omega) w
      have hl2 := fun w => levels_irow t (by omega) w
      have hn1 := lv_len s
      have hn2 := lv_len t
      simp only [Bool.true_and]
      generalize lv s = f at *
      generalize lv t = g at *
      have hco := fun (w : World) (va vb : Value) (ha : IRow w va f) (hb : IRow w vb g) => covers0 g f w va vb ha hb (by omega) (by omega)
      generalize cov TP.one TP.rest f g 0 = res at *
      go_enter Tryd.func23, Tryd.ntmps23
      go_wp2_with (first
        | (go_at_call 13; (with_reducible refine (hf _).mono ?_); rintro e w2 ⟨rfl, hb⟩; clear hf)
        | (go_at_call 13; (with_reducible refine (hg _).mono ?_); rintro e w3 ⟨rfl, hb2⟩
           have hb3 := hb.trans (hb2.mono hb.size)
           clear hb hb2 hg)
        | (go_at_call 16; (with_reducible refine (hl1 _).mono ?_); rintro e w4 ⟨v1, rfl, hr1, hb⟩
           have hb4 := hb3.trans (hb.mono hb3.size)
           clear hb hl1)
        | (go_at_call 16; (with_reducible refine (hl2 _).mono ?_); rintro e w5 ⟨v2, rfl, hr2, hb⟩
           have hb5 := hb4.trans (hb.mono hb4.size)
           have hr1 := hr1.below hb
           have hcc := hco _ _ _ hr1 hr2
           clear hb hl2)
        | (go_at_call 36; (with_reducible refine hcc.mono ?_); rintro e w6 ⟨rfl, hb⟩
           have hb6 := hb5.trans (hb.mono hb5.size)))
      go_returns
      exact ⟨rfl, hb6⟩

set_option maxHeartbeats 4000000 in
theorem meetB_walk (s t : ByteArray) (hs : s.size ≤ 900000) (ht : t.size ≤ 900000) (w : World) : Calls Tryd.prog 25 #[.string s, .string t] w fun e w' => e = .returned (.bool (mtB s t)) ∧ Below w.heap.size w w' := by
  have hf := fun w => filter_walk s hs w
  have hg := fun w => filter_walk t ht w
  unfold mtB
  cases e1 : filterB s with
  | false =>
    rw [e1] at hf
    clear hg
    go_enter Tryd.func25, Tryd.ntmps25
    go_wp2_with (go_at_call 13; (with_reducible refine (hf _).mono ?_); rintro e w2 ⟨rfl, hb⟩)
    go_returns
    exact ⟨rfl, hb⟩
  | true =>
    rw [e1] at hf
    cases e2 : filterB t with
    | false =>
      rw [e2] at hg
      go_enter Tryd.func25, Tryd.ntmps25
      go_wp2_with (first
        | (go_at_call 13; (with_reducible refine (hf _).mono ?_); rintro e w2 ⟨rfl, hb⟩; clear hf)
        | (go_at_call 13; (with_reducible refine (hg _).mono ?_); rintro e w3 ⟨rfl, hb2⟩
           have hb3 := hb.trans (hb2.mono hb.size)))
      go_returns
      exact ⟨rfl, hb3⟩
    | true =>
      rw [e2] at hg
      have hl1 := fun w => levels_irow s (by omega) w
      have hl2 := fun w => levels_irow t (by omega) w
      have hn1 := lv_len s
      have hn2 := lv_len t
      simp only [Bool.true_and]
      generalize lv s = f at *
      generalize lv t = g at *
      have hco := fun (w : World) (va vb : Value) (ha : IRow w va f) (hb : IRow w vb g) => meet_walk g f w va vb ha hb (by omega) (by omega)
      generalize TP.mt TP.one TP.rest f g = res at *
      go_enter Tryd.func25, Tryd.ntmps25
      go_wp2_with (first
        | (go_at_call 13; (with_reducible refine (hf _).mono ?_); rintro e w2 ⟨rfl, hb⟩; clear hf)
        | (go_at_call 13; (with_reducible refine (hg _).mono ?_); rintro e w3 ⟨rfl, hb2⟩
           have hb3 := hb.trans (hb2.mono hb.size)
           clear hb hb2 hg)
        | (go_at_call 16; (with_reducible refine (hl1 _).mono ?_); rintro e w4 ⟨v1, rfl, hr1, hb⟩
           have hb4 := hb3.trans (hb.mono hb3.size)
           clear hb hl1)
        | (go_at_call 16; (with_reducible refine (hl2 _).mono ?_); rintro e w5 ⟨v2, rfl, hr2, hb⟩
           have hb5 := hb4.trans (hb.mono hb4.size)
           have hr1 := hr1.below hb
           have hcc := hco _ _ _ hr1 hr2
           clear hb hl2)
        | (go_at_call 37; (with_reducible refine hcc.mono ?_); rintro e w6 ⟨rfl, hb⟩
           have hb6 := hb5.trans (hb.mono hb5.size)))
      go_returns
      exact ⟨rfl, hb6⟩

end Go.Proofs.YtfakimleoihfgaaDoor.TW
