/-
  Chapter 08: the walk of the law MailRoom.
-/
import Derived.Test.YtgomnnddfddkhaaMailOps
import Derived.Deep.RegionHeld3
import Derived.Deep.Cut
namespace Go.Proofs.Ytgomnnddfddkhaa.VF
open Go.RowKit Go.Conc Go.Proofs.Ytgomnnddfddkhaa Go.Proofs.Ytgomnnddfddkhaa.ML
attribute [local go_sem] max2_int min2_int max_two min_two

set_option maxHeartbeats 8000000 in
set_option maxRecDepth 100000 in
theorem MailRoom_walk (a0 : Int) (a1 : Option Addr) (len1 cap1 : Nat) (z1 : Nat → OpM) (w : World) (w1 : IsOps w a1 len1 z1) :
    Calls Try.prog 8 #[.int .i64 a0, .slice a1 len1 cap1] w fun e w' => e = .returned (.bool true) ∧ Below w.heap.size w w' := by
  have hfx := fixed_walk
  obtain ⟨y, hy, hyl⟩ := and_mask a0 (c := 15) (by decide)
  rw [show ((15 : Nat) : Int) = 15 from rfl] at hy
  obtain ⟨n, hn⟩ : ∃ n : Nat, 1 + (y : Int) = n := ⟨1 + y, by omega⟩
  have hnw := fun w => new_walk n (by omega) (by omega) w
  go_enter Try.func8, Try.ntmps8
  go_wp2_with (go_at_call 9; (with_reducible refine (hnw _).mono ?_); rintro e w2 ⟨rfl, hm, hb⟩
               have b0 := MO.new (N := w.heap.size) (w0 := w) hm hb (Nat.le_refl _) (Below.refl _ _)
               clear hm hb)
  go_loopw [8] (fun v8 wr => ∃ (i : Nat) (l : List ByteArray), v8 = .int .i64 i ∧ i ≤ len1 ∧ i ≤ 60 ∧ MO w.heap.size w wr (w.heap.size + 1) w.heap.size n l) (fun i _ => 60 - (intOf i).toNat)
  case atStart => exact ⟨0, [], rfl, Nat.zero_le _, Nat.zero_le _, b0⟩
  case round =>
    obtain ⟨i, l, rfl, hi, hi2, b1⟩ := hrel
    clear b0 hnw
    have hle := b1.at_.le
    have hn16 : n ≤ 16 := by omega
    by_cases hgo : i < len1 ∧ i < 60
    · obtain ⟨hlt, hlt2⟩ := hgo
      obtain ⟨x, rfl⟩ : ∃ x, a1 = some x := by
        rcases w1 with h | ⟨x, hx, _⟩
        · omega
        · exact ⟨x, hx⟩
      obtain ⟨⟨c0, c1, c2⟩, d1, d2⟩ := IsOps.loads w1 hlt (Nat.le_refl _) b1.bel
      obtain ⟨o, ho⟩ : ∃ o, z1 i = o := ⟨_, rfl⟩
      obtain ⟨kd, s, nn⟩ := o
      rw [ho] at c0 c1 c2 d1 d2
      simp only at c0 c1 c2 d1 d2
      by_cases hk : kd = 1
      · subst hk
        have hl5 : l.length ≤ 100000 := by omega
        have hll : l.tail.length ≤ n := by rw [List.length_tail]; omega
        obtain ⟨l2, hl2⟩ : ∃ l2, l.tail = l2 := ⟨_, rfl⟩
        rw [hl2] at hll
        have hsum : (l2.length : Int) + (n - l2.length) = n := by omega
        have hnr : ¬ (n : Int) - l2.length < 0 := by omega
        go_wp2_with (first
          | (go_at_call 15; (with_reducible refine (first_walk b1.at_ hl5).mono ?_); rintro e w3 ⟨rfl, hm, hK⟩
             have b3 := b1.own hm hK
             clear hm hK)
          | (go_at_call 13; (with_reducible refine (take_walk b3.at_).mono ?_); rintro e w4 ⟨rfl, hm, hK⟩
             have b4 := b3.own hm hK
             rw [hl2] at b4
             clear hm hK)
          | (go_at_call 24; (with_reducible refine (len_walk b4.at_).mono ?_); rintro e w7 ⟨rfl, rfl⟩)
          | (go_at_call 25; (with_reducible refine (room_walk b4.at_ (by omega)).mono ?_); rintro e w5 ⟨rfl, rfl⟩
             have b5 := b4.drew)
          | (go_at_call 24; (with_reducible refine (len_walk b5.at_).mono ?_); rintro e w7 ⟨rfl, rfl⟩)
          | (go_at_call 25; (with_reducible refine (room_walk b5.at_ (by omega)).mono ?_); rintro e w5 ⟨rfl, rfl⟩
             have b6 := b5.drew))
        go_roundw
        case rel => exact ⟨i + 1, l2, by go_num, by omega, by omega, b6⟩
        case measure => simp [intOf]; omega
      · have hkb : (kd == 1) = false := by simpa using hk
        obtain ⟨j, hj, bj0, bj1, bj2⟩ := cut40 s
        obtain ⟨S, hS⟩ : ∃ S, s.extract 0 j.toNat = S := ⟨_, rfl⟩
        by_cases hfull : l.length < n
        · have hz : ((n : Int) - l.length == 0) = false := by simp; omega
          have e1 : putE n l = 0 := by unfold putE; rw [if_pos (by omega)]
          have e2 : putT n l S = l ++ [S] := by unfold putT; rw [if_pos (by omega)]
          obtain ⟨l2, hl2⟩ : ∃ l2, putT n l S = l2 := ⟨_, rfl⟩
          have hll : l2.length ≤ n := by rw [← hl2, e2, List.length_append]; simp; omega
          have hsum : (l2.length : Int) + (n - l2.length) = n := by omega
          have hnr : ¬ (n : Int) - l2.length < 0 := by omega
          have w1h := Lib.hid w1
          have hoh := Lib.hid ho
          have hl2 := Lib.hid hl2
          clear ho e2
          go_upto_region 14 with (first
            | (go_at_call 25; (with_reducible refine (room_walk b1.at_ (by omega)).mono ?_); rintro e w5 ⟨rfl, rfl⟩
               have b2 := b1.drew))
          have b3 := b2.drew
          have x1 : wr.drew.drew.cell? (x.add (i * 3 + 1)) = some (.string s) := c1
          have x2 : wr.drew.drew.cell? ⟨(x.add (i * 3)).block, (x.add (i * 3)).off + 1, none⟩ = some (.string s) := d1
          go_region_held3 (fun W => W.cell? (x.add (i * 3 + 1)) = some (.string s) ∧ W.cell? ⟨(x.add (i * 3)).block, (x.add (i * 3)).off + 1, none⟩ = some (.string s)) (first | exact ⟨x1, x2⟩ | exact ⟨y1, y2⟩) (first
            | (go_at_call 11; (with_reducible refine (put_walk b3.at_ S).mono ?_); rintro e w4 ⟨rfl, hm, hK⟩
               have b4 := b3.own hm hK
               obtain ⟨⟨_, y1, _⟩, y2, _⟩ := IsOps.loads w1h.out hlt (Nat.le_refl _) b4.bel
               rw [hoh.out] at y1 y2
               simp only at y1 y2
               rw [hl2.out] at b4
               clear hm hK))
          go_wp2_with (first
            | (go_at_call 24; (with_reducible refine (len_walk b4.at_).mono ?_); rintro e w7 ⟨rfl, rfl⟩)
            | (go_at_call 25; (with_reducible refine (room_walk b4.at_ (by omega)).mono ?_); rintro e w5 ⟨rfl, rfl⟩
               have b5 := b4.drew)
            | (go_at_call 24; (with_reducible refine (len_walk b5.at_).mono ?_); rintro e w7 ⟨rfl, rfl⟩)
            | (go_at_call 25; (with_reducible refine (room_walk b5.at_ (by omega)).mono ?_); rintro e w5 ⟨rfl, rfl⟩
               have b6 := b5.drew))
          go_roundw
          case rel => exact ⟨i + 1, l2, by go_num, by omega, by omega, b6⟩
          case measure => simp [intOf]; omega
        · have hz : (n : Int) - l.length = 0 := by omega
          have e1 : putE n l = 7 := by unfold putE; rw [if_neg (by omega)]
          have e2 : putT n l S = l := by unfold putT; rw [if_neg (by omega)]
          obtain ⟨l2, hl2⟩ : ∃ l2, putT n l S = l2 := ⟨_, rfl⟩
          have hll : l2.length ≤ n := by rw [← hl2, e2]; omega
          have hsum : (l2.length : Int) + (n - l2.length) = n := by omega
          have hnr : ¬ (n : Int) - l2.length < 0 := by omega
          have w1h := Lib.hid w1
          have hoh := Lib.hid ho
          have hl2 := Lib.hid hl2
          clear ho e2
          go_upto_region 14 with (first
            | (go_at_call 25; (with_reducible refine (room_walk b1.at_ (by omega)).mono ?_); rintro e w5 ⟨rfl, rfl⟩
               have b2 := b1.drew))
          have b3 := b2.drew
          have x1 : wr.drew.drew.cell? (x.add (i * 3 + 1)) = some (.string s) := c1
          have x2 : wr.drew.drew.cell? ⟨(x.add (i * 3)).block, (x.add (i * 3)).off + 1, none⟩ = some (.string s) := d1
          go_region_held3 (fun W => W.cell? (x.add (i * 3 + 1)) = some (.string s) ∧ W.cell? ⟨(x.add (i * 3)).block, (x.add (i * 3)).off + 1, none⟩ = some (.string s)) (first | exact ⟨x1, x2⟩ | exact ⟨y1, y2⟩) (first
            | (go_at_call 11; (with_reducible refine (put_walk b3.at_ S).mono ?_); rintro e w4 ⟨rfl, hm, hK⟩
               have b4 := b3.own hm hK
               obtain ⟨⟨_, y1, _⟩, y2, _⟩ := IsOps.loads w1h.out hlt (Nat.le_refl _) b4.bel
               rw [hoh.out] at y1 y2
               simp only at y1 y2
               rw [hl2.out] at b4
               clear hm hK))
          go_wp2_with (first
            | (go_at_call 24; (with_reducible refine (len_walk b4.at_).mono ?_); rintro e w7 ⟨rfl, rfl⟩)
            | (go_at_call 25; (with_reducible refine (room_walk b4.at_ (by omega)).mono ?_); rintro e w5 ⟨rfl, rfl⟩
               have b5 := b4.drew)
            | (go_at_call 24; (with_reducible refine (len_walk b5.at_).mono ?_); rintro e w7 ⟨rfl, rfl⟩)
            | (go_at_call 25; (with_reducible refine (room_walk b5.at_ (by omega)).mono ?_); rintro e w5 ⟨rfl, rfl⟩
               have b6 := b5.drew))
          go_roundw
          case rel => exact ⟨i + 1, l2, by go_num, by omega, by omega, b6⟩
          case measure => simp [intOf]; omega
    · have hx : i < len1 ∧ ¬ i < 60 ∨ ¬ i < len1 := by
        by_cases h : i < len1
        · exact .inl ⟨h, fun g => hgo ⟨h, g⟩⟩
        · exact .inr h
      clear hgo
      rcases hx with ⟨hlt, hlt2⟩ | hlt
      all_goals
        go_wp2_with (first | (go_at_call 26; (with_reducible refine (hfx _).mono ?_); rintro e w10 ⟨rfl, hq⟩
                              have h10 := b1.below hq
                              clear hq))
        go_returns
        exact ⟨rfl, h10.bel⟩
end Go.Proofs.Ytgomnnddfddkhaa.VF
