/-
  Chapter 09: the walk of the law DiskCrashes.
-/
import Derived.Test.YtkmgbgolpogmpaaDskOff
import Derived.Test.YtkmgbgolpogmpaaDskWhole
namespace Go.Proofs.Ytkmgbgolpogmpaa.VF
open Go.RowKit Go.Proofs.Ytkmgbgolpogmpaa Go.Proofs.Ytkmgbgolpogmpaa.DK
attribute [local go_sem] max2_int min2_int max_two min_two

set_option maxHeartbeats 8000000 in
set_option maxRecDepth 100000 in
theorem DiskCrashes_walk (a0 : Option Addr) (len0 cap0 : Nat) (z0 : Nat → OpV) (a1 : Int) (w : World) (w0 : IsOps w a0 len0 z0) :
    Calls Try.prog 4 #[.slice a0 len0 cap0, .int .i64 a1] w fun e w' => e = .returned (.bool true) ∧ Below w.heap.size w w' := by
  have hn := Own.new w
  have hfx := fixed_walk
  go_enter Try.func4, Try.ntmps4
  go_wp2_with (go_at_call 9; (with_reducible refine (new_walk _).mono ?_); rintro e w1 ⟨rfl, rfl⟩)
  go_loopw [6] (fun v6 wr => ∃ (i : Nat) (W : Value) (st : St), v6 = .int .i64 i ∧ i ≤ len0 ∧ i ≤ 60 ∧ Own w.heap.size w wr w.heap.size W st.n st.k st.l ∧ Sound i st) (fun i _ => 60 - (intOf i).toNat)
  case atStart => exact ⟨0, .slice none 0 0, ⟨zero4, zero4, []⟩, rfl, Nat.zero_le _, Nat.zero_le _, hn, Sound.zero 0⟩
  case round =>
    obtain ⟨i, W, st, rfl, hi, hi2, hO, hS⟩ := hrel
    by_cases hgo : i < len0 ∧ i < 60
    · obtain ⟨hlt, hlt2⟩ := hgo
      rcases w0.below (Nat.le_refl _) hO.bel with h | ⟨x, rfl, hm, hc⟩
      · omega
      obtain ⟨c0, c1, c2, c3, hzs⟩ := hc i hlt
      clear hc w0 hn
      obtain ⟨o, ho⟩ : ∃ o, z0 i = o := ⟨_, rfl⟩
      rw [ho] at c0 c1 c2 c3 hzs
      clear ho z0
      obtain ⟨kd, fl, s, nn⟩ := o
      simp only at c0 c1 c2 c3 hzs
      obtain ⟨d1, d2, d3⟩ := four_cells _ c0 c1 c2 c3
      have hpl0 := play_calls hO.at_ hS (by omega) kd fl s nn
      have hS2 := Lib.hid (hS.next ⟨kd, fl, s, nn⟩)
      generalize next st _ = st2 at *
      go_wp2_with (first
        | (go_at_call 14; (with_reducible refine hpl0.mono ?_); rintro e w2 ⟨rfl, hq⟩
           obtain ⟨W2, hO2, hK2, _⟩ := hO.puts hq
           clear hq hK2))
      go_roundw
      case rel => exact ⟨i + 1, W2, st2, by go_num, by omega, by omega, hO2, hS2.out⟩
      case measure => simp [intOf]; omega
    · have hF := hS.fine (by omega)
      have hl : st.l.length ≤ 60 := Nat.le_trans hS.len hi2
      have hU : unitsOf st.l ≤ 100000000 := Nat.le_trans (unitsOf_le _ hS.ok) (by omega)
      obtain ⟨y, hy, hyl⟩ := and_mask a1 (c := 65535) (by decide)
      rw [show ((65535 : Nat) : Int) = 65535 from rfl] at hy
      obtain ⟨n, k, l⟩ := st
      obtain ⟨_, hok, hsmall, hnow⟩ := hS
      simp only at hO hF hl hU hnow hsmall
      obtain ⟨u, hu⟩ : ∃ u, unitsOf l = u := ⟨_, rfl⟩
      rw [hu] at hU hnow
      obtain ⟨m, hm⟩ : ∃ m : Nat, (if (u : Int) < (y : Int) then (u : Int) else (y : Int)) = (m : Int) := ⟨min u y, by split <;> omega⟩
      have hmb : (if u < y then (u : Int) else (y : Int)) = (m : Int) := by rw [← hm]; split <;> split <;> omega
      have g1 : staysN (u : Int) u = u := by unfold staysN; omega
      have g2 : staysN 0 u = 0 := by unfold staysN; omega
      have g3 : staysN (y : Int) u = m := by unfold staysN; split at hm <;> omega
      have g4 : staysN (-1) u = 0 := by unfold staysN; omega
      have g5 : stays l 0 k = k := stays_zero l k
      obtain ⟨r, hr⟩ : ∃ r, stays l m k = r := ⟨_, rfl⟩
      have hrz := hsmall m
      rw [hr] at hrz
      have hF2 : Fine r r [] := (Sound.sure 0 hrz).fine (by decide)
      have g6 : staysN 0 (unitsOf []) = 0 := rfl
      have g7 : stays [] 0 r = r := rfl
      have g8 : unitsOf [] = 0 := rfl
      have hl' : l.length ≤ 1000000 := by omega
      replace hnow := Lib.hid hnow
      have hm2 : m ≤ u := by split at hm <;> omega
      replace hgo := Lib.hid hgo
      replace hsmall := Lib.hid hsmall
      have hx : i < len0 ∧ ¬ i < 60 ∨ ¬ i < len0 := by
        by_cases h : i < len0
        · exact .inl ⟨h, fun g => hgo.out ⟨h, g⟩⟩
        · exact .inr h
      rcases hx with ⟨hlt, hlt2⟩ | hlt
      all_goals
        go_wp2_with (first
          | (go_at_call 10; (with_reducible refine (copy_walk hO.at_ hl').mono ?_); rintro e wA ⟨BA, VA, rfl, ho, hq, hB, hV⟩
             have oA := hO.copied hq ho hB hV
             have fA := Lib.hid (Off.fresh hO.at_ hB hV)
             have hOA := hO.below hq
             clear ho hq hB hV)
          | (go_at_call 10; (with_reducible refine (copy_walk hOA.at_ hl').mono ?_); rintro e wB ⟨BB, VB, rfl, ho, hq, hB, hV⟩
             have oB := hOA.copied hq ho hB hV
             have fB := Lib.hid (Off.fresh hOA.at_ hB hV)
             have fBA := Lib.hid (Off.fresh oA.at_ hB hV)
             have hOB := hOA.below hq
             replace oA := oA.below hq
             clear ho hq hB hV)
          | (go_at_call 10; (with_reducible refine (copy_walk hOB.at_ hl').mono ?_); rintro e wC ⟨BC, VC, rfl, ho, hq, hB, hV⟩
             have oC := hOB.copied hq ho hB hV
             have fC := Lib.hid (Off.fresh hOB.at_ hB hV)
             have fCA := Lib.hid (Off.fresh oA.at_ hB hV)
             have fCB := Lib.hid (Off.fresh oB.at_ hB hV)
             have hOC := hOB.below hq
             replace oA := oA.below hq
             replace oB := oB.below hq
             clear ho hq hB hV)
          | (go_at_call 10; (with_reducible refine (copy_walk hOC.at_ hl').mono ?_); rintro e wE ⟨BE, VE, rfl, ho, hq, hB, hV⟩
             have oE := hOC.copied hq ho hB hV
             have fE := Lib.hid (Off.fresh hOC.at_ hB hV)
             have fEA := Lib.hid (Off.fresh oA.at_ hB hV)
             have fEB := Lib.hid (Off.fresh oB.at_ hB hV)
             have fEC := Lib.hid (Off.fresh oC.at_ hB hV)
             have hOE := hOC.below hq
             replace oA := oA.below hq
             replace oB := oB.below hq
             replace oC := oC.below hq
             clear ho hq hB hV)
          | (go_at_call 16; (with_reducible refine (units_walk hOE.at_ hl' (by rw [hu]; omega)).mono ?_); rintro e wF ⟨rfl, hq⟩
             have hOF := hOE.below hq
             replace oA := oA.below hq
             replace oB := oB.below hq
             replace oC := oC.below hq
             replace oE := oE.below hq
             clear hq)
          | (go_at_call 23; (with_reducible refine (crash_walk oA.at_ hF (u : Int)).mono ?_); rintro e wG ⟨rfl, hq, hK⟩
             have pA := oA.nil hq hK
             rw [hu, g1, hnow.out] at pA
             replace hOF := hOF.off hK fA.out.symm pA
             replace oB := oB.off hK fBA.out pA
             replace oC := oC.off hK fCA.out pA
             replace oE := oE.off hK fEA.out pA
             clear hq hK oA)
          | (go_at_call 23; (with_reducible refine (crash_walk oB.at_ hF 0).mono ?_); rintro e wG ⟨rfl, hq, hK⟩
             have pB := oB.nil hq hK
             rw [hu, g2, g5] at pB
             replace hOF := hOF.off hK fB.out.symm pB
             replace pA := pA.off hK fBA.out.nil.symm pB
             replace oC := oC.off hK fCB.out pB
             replace oE := oE.off hK fEB.out pB
             clear hq hK oB)
          | (go_at_call 23; (with_reducible refine (crash_walk oC.at_ hF (y : Int)).mono ?_); rintro e wG ⟨rfl, hq, hK⟩
             have pC := oC.nil hq hK
             rw [hu, g3, hr] at pC
             replace hOF := hOF.off hK fC.out.symm pC
             replace pA := pA.off hK fCA.out.nil.symm pC
             replace pB := pB.off hK fCB.out.nil.symm pC
             replace oE := oE.off hK fEC.out pC
             clear hq hK oC)
          | (go_at_call 23; (with_reducible refine (crash_walk oE.at_ hF (-1)).mono ?_); rintro e wG ⟨rfl, hq, hK⟩
             have pE := oE.nil hq hK
             rw [hu, g4, g5] at pE
             have hOG := hOF.off hK fE.out.symm pE
             replace pA := pA.off hK fEA.out.nil.symm pE
             replace pB := pB.off hK fEB.out.nil.symm pE
             replace pC := pC.off hK fEC.out.nil.symm pE
             clear hq hK oE hOF)
          )
        go_loopw [13] (fun v13 wx => ∃ j : Nat, v13 = .int .i64 j ∧ j ≤ 4 ∧ wx = wG) (fun i _ => 4 - (intOf i).toNat)
        case atStart => exact ⟨0, rfl, by omega, rfl⟩
        case round =>
          obtain ⟨j, rfl, hj, rfl⟩ := hrel
          by_cases hj4 : j < 4
          · go_wp2_with (first
              | (go_at_call 18; (with_reducible refine (read_walk pA.at_ (j : Int)).mono ?_); rintro e w7 ⟨rfl, rfl⟩)
              | (go_at_call 18; (with_reducible refine (read_walk hOG.at_ (j : Int)).mono ?_); rintro e w7 ⟨rfl, rfl⟩)
              | (go_at_call 18; (with_reducible refine (read_walk pB.at_ (j : Int)).mono ?_); rintro e w7 ⟨rfl, rfl⟩)
              | (go_at_call 20; (with_reducible refine (kept_walk hOG.at_ (j : Int)).mono ?_); rintro e w7 ⟨rfl, rfl⟩)
              | (go_at_call 18; (with_reducible refine (read_walk pE.at_ (j : Int)).mono ?_); rintro e w7 ⟨rfl, rfl⟩)
              | (go_at_call 18; (with_reducible refine (read_walk pC.at_ (j : Int)).mono ?_); rintro e w7 ⟨rfl, rfl⟩)
              | (go_at_call 20; (with_reducible refine (kept_walk pC.at_ (j : Int)).mono ?_); rintro e w7 ⟨rfl, rfl⟩))
            go_roundw
            case rel => exact ⟨j + 1, by go_num, by omega, by trivial⟩
            case measure => simp [intOf]; omega
          · go_wp2_with (first
              | (go_at_call 18; (with_reducible refine (read_walk pC.at_ 0).mono ?_); rintro e w7 ⟨rfl, rfl⟩)
              | (go_at_call 16; (with_reducible refine (units_walk pA.at_ (by simp) (by rw [g8]; omega)).mono ?_); rintro e wH ⟨rfl, hq⟩
                 have qC := pC.below hq
                 clear hq)
              | (go_at_call 16; (with_reducible refine (units_walk qC.at_ (by simp) (by rw [g8]; omega)).mono ?_); rintro e wI ⟨rfl, hq⟩
                 have rC := qC.below hq
                 clear hq)
              | (go_at_call 23; (with_reducible refine (crash_walk rC.at_ hF2 0).mono ?_); rintro e wJ ⟨rfl, hq, hK⟩
                 have sC := rC.nil hq hK
                 rw [g6, g7] at sC
                 clear hq hK)
              | (go_at_call 18; (with_reducible refine (read_walk sC.at_ 0).mono ?_); rintro e w7 ⟨rfl, rfl⟩)
              | (go_at_call 22; (with_reducible refine (hfx _).mono ?_); rintro e w10 ⟨rfl, hb⟩
                 have h10 := sC.below hb
                 clear hb))
            go_returns
            exact ⟨rfl, h10.bel⟩
end Go.Proofs.Ytkmgbgolpogmpaa.VF
