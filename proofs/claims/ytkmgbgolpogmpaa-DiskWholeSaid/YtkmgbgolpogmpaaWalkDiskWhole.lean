/-
  Chapter 09: the walk of the law DiskWhole.
-/
import Derived.Test.YtkmgbgolpogmpaaDskWhole
namespace Go.Proofs.Ytkmgbgolpogmpaa.VF
open Go.RowKit Go.Proofs.Ytkmgbgolpogmpaa Go.Proofs.Ytkmgbgolpogmpaa.DK
attribute [local go_sem] max2_int min2_int max_two min_two

theorem cutw_size (s : ByteArray) (j : Int) : (s.extract 0 j.toNat).size ≤ j.toNat := by simp only [ByteArray.size_extract]; omega
theorem made_conv {w : World} {b cap N : Nat} (hown : w.ownsRow 0 5 1 (.slice (some ⟨b, 0, none⟩) N cap) N (madeCells (Value.cells (.int .u8 0)) (N * 1)).toList) :
    (convert 45 9 (.slice (some ⟨b, 0, none⟩) N cap)).run Try.prog w = .ok (.string (strOfNums (List.replicate N 0))) w := by
  refine run_convert_bytes_arg w 45 5 under45 under8 b 0 N cap (List.replicate N 0) (by simp) (fun i hi => ?_) 9 under9
  rw [Nat.zero_add, hown.cellAt i (by omega), show Value.cells (.int .u8 0) = #[.int .u8 0] from rfl, toList_madeCells_one]
  simp [List.getElem?_replicate, hi, List.getD_eq_getElem?_getD]
set_option maxHeartbeats 8000000 in
set_option maxRecDepth 100000 in
theorem DiskWhole_walk (a0 a1 : ByteArray) (a2 : Int) (w : World) (w0 : a0.size ≤ 140737488351232) (w1 : a1.size ≤ 140737488351232) :
    Calls Try.prog 6 #[.string a0, .string a1, .int .i64 a2] w fun e w' => e = .returned (.bool true) ∧ Below w.heap.size w w' := by
  obtain ⟨j0, hj0⟩ : ∃ j : Int, (if 2000 < (a0.size : Int) then 2000 else (a0.size : Int)) = j := ⟨_, rfl⟩
  obtain ⟨j1, hj1⟩ : ∃ j : Int, (if 2000 < (a1.size : Int) then 2000 else (a1.size : Int)) = j := ⟨_, rfl⟩
  have b0 : 0 ≤ j0 ∧ j0 ≤ a0.size ∧ j0 ≤ 2000 := by rw [← hj0]; split <;> omega
  have b1 : 0 ≤ j1 ∧ j1 ≤ a1.size ∧ j1 ≤ 2000 := by rw [← hj1]; split <;> omega
  obtain ⟨b00, b01, b02⟩ := b0
  obtain ⟨b10, b11, b12⟩ := b1
  have z0 := cutw_size a0 j0
  have z1 := cutw_size a1 j1
  obtain ⟨S0, hS0⟩ : ∃ S : ByteArray, a0.extract 0 j0.toNat = S := ⟨_, rfl⟩
  obtain ⟨S1, hS1⟩ : ∃ S : ByteArray, a1.extract 0 j1.toNat = S := ⟨_, rfl⟩
  rw [hS0] at z0
  rw [hS1] at z1
  obtain ⟨y, hy, _⟩ := and_mask a2 (c := 65535) (by decide)
  rw [show ((65535 : Nat) : Int) = 65535 from rfl] at hy
  obtain ⟨m, hm, hm3⟩ : ∃ m : Nat, Int.tmod (y : Int) 4 = (m : Int) ∧ m ≤ 3 := ⟨y % 4, by rw [Int.tmod_eq_emod_of_nonneg (by omega)]; exact (Int.natCast_emod y 4).symm, by omega⟩
  obtain ⟨X, hX, hX2⟩ := whole_stays S0 S1 hm3
  obtain ⟨big, hbig⟩ : ∃ b, strOfNums (List.replicate 65537 0) = b := ⟨_, rfl⟩
  have hbs : big.size = 65537 := by rw [← hbig, strOfNums_size, List.length_replicate]
  obtain ⟨cut, hcut⟩ : ∃ b, big.extract 0 65536 = b := ⟨_, rfl⟩
  have hcs : cut.size = 65536 := by rw [← hcut, ByteArray.size_extract, hbs]; rfl
  have hS0s : S0.size ≤ 65536 := by omega
  have hS1s : S1.size ≤ 65536 := by omega
  have g1 : replaceS 3 S0 = 0 := by unfold replaceS; rw [if_neg (by decide), if_neg (by omega)]
  have g2 : appendS ⟨eB, eB, eB, S0⟩ 1 abB = 0 := rfl
  have g3 : replaceS 3 S1 = 0 := by unfold replaceS; rw [if_neg (by decide), if_neg (by omega)]
  have g4 : unitsOf [⟨false, 1, abB⟩, ⟨true, 3, S1⟩] = 3 := rfl
  have g5 : staysN m 3 = m := by unfold staysN; omega
  have g6 : replaceS 0 big = 2 := by unfold replaceS; rw [if_neg (by decide), if_pos (by omega)]
  have g7 : replaceS 0 cut = 0 := by unfold replaceS; rw [if_neg (by decide), if_neg (by omega)]
  have e1 : eB.size ≤ 65536 := by decide
  have e2 : abB.size ≤ 65536 := by decide
  have hF1 : Fine ⟨eB, abB, eB, S1⟩ ⟨eB, eB, eB, S0⟩ [⟨false, 1, abB⟩, ⟨true, 3, S1⟩] := ⟨at_le _ e1 e2 e1 hS1s, at_le _ e1 e1 e1 hS0s, by simp, by
    intro x hx
    simp at hx
    rcases hx with rfl | rfl
    · exact ⟨by decide, by decide, by decide⟩
    · exact ⟨by show (0 : Int) ≤ 3; decide, by show (3 : Int) < 4; decide, hS1s⟩⟩
  obtain ⟨SS, hSS⟩ : ∃ S, (if m = 3 then S1 else S0) = S := ⟨_, rfl⟩
  rw [hSS] at hX
  have hSSs : SS.size ≤ 65536 := by rw [← hSS]; split <;> assumption
  have g8 : appendS ⟨cut, X, eB, SS⟩ 0 ⟨#[120]⟩ = 2 := by
    unfold appendS
    rw [if_neg (by decide), if_pos (by show ((1 : Nat) : Int) > 65536 - (cut.size : Int); omega)]
  have g9 : appendS ⟨cut, X, eB, SS⟩ 0 ⟨#[]⟩ = 0 := by
    unfold appendS
    rw [if_neg (by decide), if_neg (by show ¬ ((0 : Nat) : Int) > 65536 - (cut.size : Int); omega)]
  have g10 : (Four.mk eB X eB SS).at 3 = SS := rfl
  obtain ⟨i8, hi8, hz8⟩ := Option.map_eq_some_iff.1 info8
  simp only [Prod.mk.injEq] at hz8
  obtain ⟨hz0, hz1, hz2⟩ := hz8
  have hfx := fixed_walk
  have hn := Own.new w
  have hXh := Lib.hid hX
  have hbg := Lib.hid hbig
  clear hX hbig
  have g5b : staysN (m : Int) (unitsOf [⟨false, 1, abB⟩, ⟨true, 3, S1⟩]) = m := by rw [g4]; exact g5
  by_cases hm4 : m = 3
  all_goals
    have hS := hSS
    first | rw [if_pos hm4] at hS | rw [if_neg hm4] at hS
    subst hS
    have hm5 : ((m : Int) == 3) = decide (m = 3) := by rw [Bool.eq_iff_iff]; simp; omega
    first
      | (have hm7 : decide (m = 3) = true := decide_eq_true hm4)
      | (have hm7 : decide (m = 3) = false := decide_eq_false hm4)
    rw [hm7] at hm5
    have hm8 := Lib.hid hm4
    clear hm4 hm7
    clear hSS
    go_enter Try.func6, Try.ntmps6
    go_wp2_with (first
      | (go_at_call 9; (with_reducible refine (new_walk _).mono ?_); rintro e w1 ⟨rfl, rfl⟩)
      | (go_at_call 24; (with_reducible refine (replace_walk hn.at_ (by simp) 3 S0 (by omega)).mono ?_); rintro e w2 ⟨rfl, hq⟩
         rw [g1, if_pos rfl] at hq
         obtain ⟨W2, h2, _, _⟩ := hn.puts hq
         replace h2 := Own.eq (n' := ⟨eB, eB, eB, S0⟩) (l' := [⟨true, 3, S0⟩]) h2 rfl rfl rfl
         clear hq)
      | (go_at_call 13; (with_reducible refine (sync_walk h2.at_).mono ?_); rintro e w3 ⟨rfl, hq, hK⟩
         have h3 := h2.nil hq hK
         clear hq hK)
      | (go_at_call 12; (with_reducible refine (append_walk h3.at_ (by simp) (at_le _ e1 e1 e1 hS0s) 1 ⟨#[97, 98]⟩ (by decide)).mono ?_); rintro e w4 ⟨rfl, hq⟩
         rw [show appendS ⟨eB, eB, eB, S0⟩ 1 ⟨#[97, 98]⟩ = 0 from g2, if_pos rfl] at hq
         obtain ⟨W4, h4, _, _⟩ := h3.puts hq
         replace h4 := Own.eq (n' := ⟨eB, abB, eB, S0⟩) (l' := [⟨false, 1, abB⟩]) h4 rfl rfl rfl
         clear hq)
      | (go_at_call 24; (with_reducible refine (replace_walk h4.at_ (by simp) 3 S1 (by omega)).mono ?_); rintro e w5 ⟨rfl, hq⟩
         rw [g3, if_pos rfl] at hq
         obtain ⟨W5, h5, _, _⟩ := h4.puts hq
         replace h5 := Own.eq (n' := ⟨eB, abB, eB, S1⟩) (l' := [⟨false, 1, abB⟩, ⟨true, 3, S1⟩]) h5 rfl rfl rfl
         clear hq)
      | (go_at_call 23; (with_reducible refine (crash_walk h5.at_ hF1 (m : Int)).mono ?_); rintro e w6 ⟨rfl, hq, hK⟩
         have h6 := h5.nil hq hK
         rw [g5b, hXh.out] at h6
         clear hq hK)
      | (go_at_call 18; (with_reducible refine (read_walk h7.at_ 3).mono ?_); rintro e w7 ⟨rfl, rfl⟩)
      | (at_make; refine wpList_make_full _ rfl (.const (.int .i64 65537)) (.const (.int .i64 65537)) 45 rfl 0 5 i8 (.int .u8 0) 1 under45 hi8 hz0 hz1 .i64 .i64 65537 65537 65537 rfl rfl rfl rfl (by rw [hz2]; decide) (by decide) (Nat.zero_le _) ?_; intro w7 hown hgr
         have h7 := h6.below ((Below.refl _ _).grown (row := none) hgr (Nat.le_refl _) (by simp))
         have hcv := made_conv hown
         rw [hbg.out] at hcv
         clear hown hgr)
      | (go_at_call 24; (with_reducible refine (replace_walk h7.at_ (by simp) 0 big (by omega)).mono ?_); rintro e w8 ⟨rfl, hq⟩
         rw [g6, if_neg (by decide)] at hq
         subst hq)
      | (go_at_call 24; (with_reducible refine (replace_walk h7.at_ (by simp) 0 cut (by omega)).mono ?_); rintro e w8 ⟨rfl, hq⟩
         rw [g7, if_pos rfl] at hq
         obtain ⟨W8, h8, _, _⟩ := h7.puts hq
         clear hq)
      | (go_at_call 12; (with_reducible refine (append_walk (n := ⟨cut, X, eB, _⟩) h8.at_ (by simp) (at_le _ (by show cut.size ≤ 65536; omega) (by show X.size ≤ 65536; omega) e1 (by assumption)) 0 ⟨#[120]⟩ (by decide)).mono ?_); rintro e w9 ⟨rfl, hq⟩
         rw [g8, if_neg (by decide)] at hq
         subst hq)
      | (go_at_call 12; (with_reducible refine (append_walk (n := ⟨cut, X, eB, _⟩) h8.at_ (by simp) (at_le _ (by show cut.size ≤ 65536; omega) (by show X.size ≤ 65536; omega) e1 (by assumption)) 0 ⟨#[]⟩ (by decide)).mono ?_); rintro e w9 ⟨rfl, hq⟩
         rw [g9, if_pos rfl] at hq
         obtain ⟨W9, h9, _, _⟩ := h8.puts hq
         clear hq)
      | (go_at_call 22; (with_reducible refine (hfx _).mono ?_); rintro e w10 ⟨rfl, hq⟩
         have h10 := h9.below hq
         clear hq)
      )
    go_returns
    exact ⟨rfl, h10.bel⟩
end Go.Proofs.Ytkmgbgolpogmpaa.VF
