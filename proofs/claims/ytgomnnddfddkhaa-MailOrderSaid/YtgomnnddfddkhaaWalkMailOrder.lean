/-
  Chapter 08: the walk of the law MailOrder.
-/
import Derived.Test.YtgomnnddfddkhaaMailRows
import Derived.Deep.Cut
namespace Go.Proofs.Ytgomnnddfddkhaa.VF
open Go.RowKit Go.Conc Go.Proofs.Ytgomnnddfddkhaa Go.Proofs.Ytgomnnddfddkhaa.ML
attribute [local go_sem] max2_int min2_int max_two min_two

set_option maxHeartbeats 8000000 in
set_option maxRecDepth 100000 in
theorem MailOrder_walk (a0 : Int) (a1 : Option Addr) (len1 cap1 : Nat) (z1 : Nat → OpM) (w : World) (w1 : IsOps w a1 len1 z1) :
    Calls Try.prog 5 #[.int .i64 a0, .slice a1 len1 cap1] w fun e w' => e = .returned (.bool true) ∧ Below w.heap.size w w' := by
  have hfx := fixed_walk
  obtain ⟨i0, hi9, hz9⟩ := Option.map_eq_some_iff.1 info9
  simp only [Prod.mk.injEq] at hz9
  obtain ⟨hz0, hz1, hz2⟩ := hz9
  obtain ⟨y, hy, hyl⟩ := and_mask a0 (c := 15) (by decide)
  rw [show ((15 : Nat) : Int) = 15 from rfl] at hy
  obtain ⟨n, hn⟩ : ∃ n : Nat, 1 + (y : Int) = n := ⟨1 + y, by omega⟩
  have hnw := fun w => new_walk n (by omega) (by omega) w
  go_enter Try.func5, Try.ntmps5
  go_wp2_with (go_at_call 9; (with_reducible refine (hnw _).mono ?_); rintro e w2 ⟨rfl, hm, hb⟩
               have b0 := MO.new (N := w.heap.size) (w0 := w) hm hb (Nat.le_refl _) (Below.refl _ _)
               clear hm hb)
  have hli := (World.ownsRow_lit (base := w.heap.size) (e := 9) (size := 1) w2 #[] 0 b0.base (by decide) rfl).alloc (.cells #[] 9)
  have b0a := b0.alloc (.cells #[] 9)
  have hlo := World.ownsRow_lit (base := w.heap.size) (e := 9) (size := 1) (w2.alloc (.cells #[] 9)) #[] 0 b0a.base (by decide) rfl
  have b0b := b0a.alloc (.cells #[] 9)
  have hfar : Far (.slice (some ⟨w2.heap.size, 0, none⟩) 0 0) (.slice (some ⟨(w2.alloc (.cells #[] 9)).heap.size, 0, none⟩) 0 0) := fun b e1 e2 => by
    simp [Value.ownBlock] at e1 e2
    omega
  simp only [World.size_alloc] at hlo hfar
  go_loopw [7, 8, 9] (fun v7 v8 v9 wr => ∃ (i : Nat) (oI oO : Option Addr) (kI kO : Nat) (O l : List ByteArray), v7 = .slice oI (O ++ l).length kI ∧ v8 = .slice oO O.length kO ∧ v9 = .int .i64 i ∧ (O ++ l).length ≤ i ∧ i ≤ len1 ∧ i ≤ 60 ∧
    wr.ownsRow w.heap.size 9 1 (.slice oI (O ++ l).length kI) (O ++ l).length ((O ++ l).map Value.string) ∧ wr.ownsRow w.heap.size 9 1 (.slice oO O.length kO) O.length (O.map Value.string) ∧ Hid (Far (.slice oI (O ++ l).length kI) (.slice oO O.length kO)) ∧ MO w.heap.size w wr (w.heap.size + 1) w.heap.size n l) (fun _ _ i _ => 60 - (intOf i).toNat)
  case atStart => exact ⟨0, _, _, _, _, [], [], rfl, rfl, rfl, Nat.le_refl _, Nat.zero_le _, Nat.zero_le _, hli, hlo, Lib.hid hfar, b0b⟩
  case round =>
    obtain ⟨i, oI, oO, kI, kO, O, l, rfl, rfl, rfl, hlen, hi, hi2, hI, hO, hF, b1⟩ := hrel
    clear b0 hnw b0a b0b hli hlo hfar
    have hle := b1.at_.le
    have hn16 : n ≤ 16 := by omega
    by_cases hgo : i < len1 ∧ i < 60
    · obtain ⟨hlt, hlt2⟩ := hgo
      obtain ⟨x, rfl⟩ : ∃ x, a1 = some x := by
        rcases w1 with h | ⟨x, hx, _⟩
        · omega
        · exact ⟨x, hx⟩
      obtain ⟨⟨c0, c1, c2⟩, d1, d2⟩ := IsOps.loads w1 hlt (Nat.le_refl _) b1.bel
      obtain ⟨o, ho⟩ : ∃ o, z1 i = o := ⟨_, rfl⟩
      obtain ⟨kd, s, nn⟩ := o
      rw [ho] at c0 c1 c2 d1 d2
      simp only at c0 c1 c2 d1 d2
      clear ho w1
      obtain ⟨j, hj, bj0, bj1, bj2⟩ := cut40 s
      obtain ⟨S, hS⟩ : ∃ S, s.extract 0 j.toNat = S := ⟨_, rfl⟩
      have hlen2 : (O ++ l).length = O.length + l.length := List.length_append
      obtain ⟨nI, hnI⟩ : ∃ nI, (O ++ l).length = nI := ⟨_, rfl⟩
      rw [hnI] at hI hF hlen hlen2
      rw [hnI]
      have hId := hI.drew
      have hOd := hO.drew
      have b2 := b1.drew
      clear hI hO b1
      replace hlen2 := Lib.hid hlen2
      replace hnI := Lib.hid hnI
      by_cases hk : kd = 1
      · subst hk
        cases l with
        | nil =>
          have hlt3 : ¬ (O.length : Int) < nI := by have h := hlen2.out; simp at h; omega
          have hlt4 : ¬ O.length < nI := by have h := hlen2.out; simp at h; omega
          have ht := take_walk b2.at_
          replace ht : Calls Try.prog 13 #[.pointer (some ⟨w.heap.size + 1, 0, none⟩)] wr.drew fun e w' => e = .returned (.tuple #[.string ⟨#[]⟩, .bool false]) ∧ MAt w' (w.heap.size + 1) w.heap.size n [] ∧ MKeeps wr.drew w' w.heap.size := ht
          go_wp2
          go_region
          go_wp2_with (first
            | (go_at_call 13; (with_reducible refine ht.mono ?_); rintro e w3 ⟨rfl, hm, hK⟩
               have b3 := b2.own hm hK
               have hI3 := own_keeps hId b2.at_ hK
               have hO3 := own_keeps hOd b2.at_ hK
               clear hm hK))
          go_roundw
          case rel => exact ⟨i + 1, oI, oO, kI, kO, O, [], by rw [hnI.out], rfl, by go_num, by rw [hnI.out]; omega, by omega, by omega, by rw [hnI.out]; exact hI3, hO3, by rw [hnI.out]; exact hF, b3⟩
          case measure => simp [intOf]; omega
        | cons x0 l =>
          have hlt3 : (O.length : Int) < nI := by have h := hlen2.out; simp at h; omega
          have hlt4 : O.length < nI := by have h := hlen2.out; simp at h; omega
          have hap : O ++ x0 :: l = (O ++ [x0]) ++ l := by simp
          have hnI2 : ((O ++ [x0]) ++ l).length = nI := by rw [← hap]; exact hnI.out
          have hnI2 := Lib.hid hnI2
          have hId2 := Lib.hid (show wr.drew.ownsRow w.heap.size 9 1 (.slice oI nI kI) nI (((O ++ [x0]) ++ l).map Value.string) by rw [← hap]; exact hId)
          have ht := take_walk b2.at_
          replace ht : Calls Try.prog 13 #[.pointer (some ⟨w.heap.size + 1, 0, none⟩)] wr.drew fun e w' => e = .returned (.tuple #[.string x0, .bool true]) ∧ MAt w' (w.heap.size + 1) w.heap.size n l ∧ MKeeps wr.drew w' w.heap.size := ht
          clear hap hId
          go_wp2
          go_region
          go_wp2_with (first
            | (go_at_call 13; (with_reducible refine ht.mono ?_); rintro e w3 ⟨rfl, hm, hK⟩
               have b3 := (b2.own hm hK).alloc (.cells #[.string x0] 9)
               have hI3 := (own_keeps hId2.out b2.at_ hK).alloc (.cells #[.string x0] 9)
               have hO3 := (own_keeps hOd b2.at_ hK).alloc (.cells #[.string x0] 9)
               have hs3 := b3.base
               clear hm hK)
            | (at_builtin; refine wpList_append_own_at _ rfl (.tmp 70) (.tmp 72) 36 rfl w.heap.size 9 i0 (.string ⟨#[]⟩) 1 16 Try.underlying36 hi9 hz0 hz1 hz2 rfl (by decide) (.slice oO O.length kO) O.length (O.map Value.string) rfl hO3 ⟨w3.heap.size, 0, none⟩ 1 1 [.string x0] rfl rfl (World.news_of_block (cs := #[.string x0]) (t := 9) (fr := (0, 0)) (heap_alloc_new w3 _)) (by simp [Value.oneCell']) (by simp only [maxLen]; omega) (by omega) hs3 ?_; intro v w5 hown hgr _ hat
               have b5 := b3.grown hO3 hgr
               have hI5 := Far.kept hF.out hI3 hgr
               have hF5 := Far.grow hF.out hI3 hat
               obtain ⟨vo, vc, rfl⟩ := own_form hown
               have hF5 := Lib.hid hF5
               have hown5 : w5.ownsRow w.heap.size 9 1 (.slice vo (O.length + 1) vc) (O.length + 1) ((O ++ [x0]).map Value.string) := by rw [List.map_append]; exact hown
               clear hgr hown hat))
          go_roundw
          case rel => exact ⟨i + 1, oI, vo, kI, vc, O ++ [x0], l, by rw [hnI2.out], by simp, by go_num, by rw [hnI2.out]; omega, by omega, by omega, by rw [hnI2.out]; exact hI5, by simpa using hown5, by rw [hnI2.out]; simpa using hF5, b5⟩
          case measure => simp [intOf]; omega
      · have hkb : (kd == 1) = false := by simpa using hk
        by_cases hfull : l.length < n
        · have e1 : putE n l = 0 := by unfold putE; rw [if_pos hfull]
          have e2 := Lib.hid (show putT n l S = l ++ [S] by unfold putT; rw [if_pos hfull])
          have hap : O ++ (l ++ [S]) = (O ++ l) ++ [S] := by simp
          have hnI2 := Lib.hid (show (O ++ (l ++ [S])).length = nI + 1 by rw [hap, List.length_append, hnI.out]; rfl)
          have hap := Lib.hid hap
          have hsub : (nI : Int) + 1 - O.length = l.length + 1 := by have h := hlen2.out; omega
          clear hk
          go_wp2
          go_region
          go_wp2_with (first
            | (go_at_call 11; (with_reducible refine (put_walk b2.at_ S).mono ?_); rintro e w3 ⟨rfl, hm, hK⟩
               have b3 := MO.eq (b2.own hm hK) e2.out
               have b3 := b3.alloc (.cells #[.string S] 9)
               have hI3 := (own_keeps hId b2.at_ hK).alloc (.cells #[.string S] 9)
               have hO3 := (own_keeps hOd b2.at_ hK).alloc (.cells #[.string S] 9)
               have hs3 := b3.base
               clear hm hK)
            | (at_builtin; refine wpList_append_own_at _ rfl (.tmp 78) (.tmp 80) 36 rfl w.heap.size 9 i0 (.string ⟨#[]⟩) 1 16 Try.underlying36 hi9 hz0 hz1 hz2 rfl (by decide) (.slice oI nI kI) nI ((O ++ l).map Value.string) rfl hI3 ⟨w3.heap.size, 0, none⟩ 1 1 [.string S] rfl rfl (World.news_of_block (cs := #[.string S]) (t := 9) (fr := (0, 0)) (heap_alloc_new w3 _)) (by simp [Value.oneCell']) (by simp only [maxLen]; omega) (by omega) hs3 ?_; intro v w5 hown hgr _ hat
               have b5 := b3.grown hI3 hgr
               have hO5 := Far.kept hF.out.symm hO3 hgr
               have hF5 := Lib.hid (Far.grow hF.out.symm hO3 hat).symm
               obtain ⟨vo, vc, rfl⟩ := own_form hown
               have hown5 : w5.ownsRow w.heap.size 9 1 (.slice vo (nI + 1) vc) (nI + 1) ((O ++ (l ++ [S])).map Value.string) := by rw [hap.out, List.map_append]; exact hown
               clear hgr hown hat)
            | (go_at_call 24; (with_reducible refine (len_walk b5.at_).mono ?_); rintro e w7 ⟨rfl, rfl⟩))
          go_roundw
          case rel => exact ⟨i + 1, vo, oO, vc, kO, O, l ++ [S], by rw [hnI2.out], rfl, by go_num, by rw [hnI2.out]; omega, by omega, by omega, by rw [hnI2.out]; exact hown5, hO5, by rw [hnI2.out]; exact hF5, b5⟩
          case measure => simp [intOf]; omega
        · have e1 : putE n l = 7 := by unfold putE; rw [if_neg hfull]
          have e2 := Lib.hid (show putT n l S = l by unfold putT; rw [if_neg hfull])
          have hsub : (nI : Int) - O.length = l.length := by have h := hlen2.out; omega
          clear hk
          go_wp2
          go_region
          go_wp2_with (first
            | (go_at_call 11; (with_reducible refine (put_walk b2.at_ S).mono ?_); rintro e w3 ⟨rfl, hm, hK⟩
               have b3 := MO.eq (b2.own hm hK) e2.out
               have hI3 := own_keeps hId b2.at_ hK
               have hO3 := own_keeps hOd b2.at_ hK
               clear hm hK)
            | (go_at_call 24; (with_reducible refine (len_walk b3.at_).mono ?_); rintro e w7 ⟨rfl, rfl⟩))
          go_roundw
          case rel => exact ⟨i + 1, oI, oO, kI, kO, O, l, by rw [hnI.out], rfl, by go_num, by rw [hnI.out]; omega, by omega, by omega, by rw [hnI.out]; exact hI3, hO3, by rw [hnI.out]; exact hF, b3⟩
          case measure => simp [intOf]; omega
    · have hx : i < len1 ∧ ¬ i < 60 ∨ ¬ i < len1 := by
        by_cases h : i < len1
        · exact .inl ⟨h, fun g => hgo ⟨h, g⟩⟩
        · exact .inr h
      clear hgo
      have hl5 : l.length ≤ 100000 := by omega
      have hlen2 : (O ++ l).length = O.length + l.length := List.length_append
      rw [hlen2] at hI hF hlen
      rw [hlen2]
      have hlen2 := Lib.hid hlen2
      rcases hx with ⟨hlt, hlt2⟩ | hlt
      all_goals
        go_wp2_with (first
          | (go_at_call 18; (with_reducible refine (all_walk b1.at_ hl5).mono ?_); rintro e w12 ⟨o1, k1, rfl, hrw, hm, hK⟩
             have b2 := b1.own hm hK
             have hI2 := own_keeps hI b1.at_ hK
             have hO2 := own_keeps hO b1.at_ hK
             have hb2 := b2.base
             clear hm hK)
          | (at_builtin; refine wpList_append_row rfl (.tmp 90) (.tmp 92) rfl w.heap.size _ (.slice oO O.length kO) (.slice o1 l.length k1) O.length l.length (O.map Value.string) l rfl rfl hO2 hrw (by omega) hb2 ?_; intro v w5 hown hgr hat
             have b3 := b2.grown hO2 hgr
             have hI3 := Far.kept hF.out hI2 hgr
             obtain ⟨vo, vc, rfl⟩ := own_form hown
             rw [← List.map_append] at hown
             have hsm := same_calls hlen2.out hI3 hown (by omega)
             clear hgr hat hI2 hO2 hrw)
          | (go_at_call 17; (with_reducible refine hsm.mono ?_); rintro e w16 ⟨rfl, hb⟩
             have b4 := b3.below hb
             clear hb hsm)
          | (go_at_call 24; (with_reducible refine (len_walk b4.at_).mono ?_); rintro e w7 ⟨rfl, rfl⟩)
          | (go_at_call 26; (with_reducible refine (hfx _).mono ?_); rintro e w19 ⟨rfl, hq⟩
             have h10 := b4.below hq
             clear hq))
        go_returns
        exact ⟨rfl, h10.bel⟩
end Go.Proofs.Ytgomnnddfddkhaa.VF
