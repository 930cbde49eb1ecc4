/-
  Chapter 08: the walk of the law MailNews.
-/
import Derived.Test.YtgomnnddfddkhaaMailRows
namespace Go.Proofs.Ytgomnnddfddkhaa.VF
open Go.RowKit Go.Conc Go.Proofs.Ytgomnnddfddkhaa Go.Proofs.Ytgomnnddfddkhaa.ML

set_option maxHeartbeats 1000000 in
theorem rnew_walk (n : Nat) (h1 : 1 ≤ n) (h2 : n ≤ 256) (w : World) : Calls Try.prog 10 #[.int .i64 n] w fun e w' => e = .returned (.tuple #[.pointer (some ⟨w.heap.size, 0, none⟩), .int .i64 0]) ∧ w' = w.alloc (.cells #[.slice none 0 0, .int .i64 n] 47) := by
  have h3 : ¬ (n : Int) < 1 := by omega
  have h4 : ¬ 256 < (n : Int) := by omega
  have h3b : ¬ n < 1 := by omega
  have h4b : ¬ 256 < n := by omega
  clear h1 h2
  go_enter Try.func10, Try.ntmps10
  go_wp2
  go_returns
  exact ⟨rfl, rfl⟩
set_option maxHeartbeats 1000000 in
theorem rnew_no (n : Int) (h : ¬ (1 ≤ n ∧ n ≤ 256)) (w : World) : Calls Try.prog 10 #[.int .i64 n] w fun e w' => e = .returned (.tuple #[.pointer none, .int .i64 1]) ∧ w = w' := by
  have h0 : n < 1 ∨ 1 ≤ n ∧ 256 < n := by omega
  clear h
  rcases h0 with h0 | ⟨h0, h1⟩
  all_goals
    go_enter Try.func10, Try.ntmps10
    go_wp2
    go_returns
    exact ⟨rfl, rfl⟩
set_option maxHeartbeats 8000000 in
set_option maxRecDepth 100000 in
theorem MailNews_walk (a0 : Int) (w : World) :
    Calls Try.prog 4 #[.int .i64 a0] w fun e w' => e = .returned (.bool true) ∧ Below w.heap.size w w' := by
  have hfx := fixed_walk
  by_cases hs : 1 ≤ a0 ∧ a0 ≤ 256
  · obtain ⟨n, rfl⟩ : ∃ n : Nat, a0 = n := ⟨a0.toNat, by omega⟩
    have h1 : 1 ≤ n := by omega
    have h2 : n ≤ 256 := by omega
    clear hs
    have hnw := fun w => new_walk n h1 h2 w
    have hrw := fun w => rnew_walk n h1 h2 w
    go_enter Try.func4, Try.ntmps4
    go_wp2_with (first
      | (go_at_call 9; (with_reducible refine (hnw _).mono ?_); rintro e w2 ⟨rfl, hm, hb⟩
         have b0 := MO.new (N := w.heap.size) (w0 := w) hm hb (Nat.le_refl _) (Below.refl _ _)
         clear hm hb)
      | (go_at_call 10; (with_reducible refine (hrw _).mono ?_); rintro e w3 ⟨rfl, rfl⟩
         have b1 := b0.alloc (.cells #[.slice none 0 0, .int .i64 n] 47)))
    go_loopw [7] (fun v5 wr => ∃ (l : List ByteArray), v5 = .int .i64 l.length ∧ MO w.heap.size w wr (w.heap.size + 1) w.heap.size n l) (fun i _ => n - (intOf i).toNat)
    case atStart => exact ⟨[], rfl, b1⟩
    case round =>
      obtain ⟨l, rfl, b2⟩ := hrel
      clear b0 b1 hnw hrw
      have hle := b2.at_.le
      by_cases hlt : l.length < n
      · have e1 : putE n l = 0 := by unfold putE; rw [if_pos hlt]
        have e2 := Lib.hid (show putT n l ⟨#[120]⟩ = l ++ [⟨#[120]⟩] by unfold putT; rw [if_pos hlt])
        go_wp2_with (first
          | (go_at_call 24; (with_reducible refine (len_walk b2.at_).mono ?_); rintro e w7 ⟨rfl, rfl⟩)
          | (go_at_call 25; (with_reducible refine (room_walk b2.at_ (by omega)).mono ?_); rintro e w5 ⟨rfl, rfl⟩
             have b3 := b2.drew)
          | (go_at_call 11; (with_reducible refine (put_walk b3.at_ ⟨#[120]⟩).mono ?_); rintro e w6 ⟨rfl, hm, hK⟩
             have b4 := MO.eq (b3.own hm hK) e2.out
             clear hm hK))
        go_roundw
        case rel => exact ⟨l ++ [⟨#[120]⟩], by simp, b4⟩
        case measure => simp [intOf]; omega
      · have hl : l.length = n := by omega
        have e1 : putE n l = 7 := by unfold putE; rw [if_neg hlt]
        have e2 := Lib.hid (show putT n l ⟨#[120]⟩ = l by unfold putT; rw [if_neg hlt])
        go_wp2_with (first
          | (go_at_call 11; (with_reducible refine (put_walk b2.at_ ⟨#[120]⟩).mono ?_); rintro e w6 ⟨rfl, hm, hK⟩
             have b4 := MO.eq (b2.own hm hK) e2.out
             clear hm hK)
          | (go_at_call 25; (with_reducible refine (room_walk b4.at_ (by omega)).mono ?_); rintro e w5 ⟨rfl, rfl⟩
             have b5 := b4.drew)
          | (go_at_call 26; (with_reducible refine (hfx _).mono ?_); rintro e w19 ⟨rfl, hq⟩
             have h10 := b5.below hq
             clear hq))
        go_returns
        exact ⟨rfl, h10.bel⟩
  · have hnw := fun w => new_no a0 hs w
    have hrw := fun w => rnew_no a0 hs w
    have hs := Lib.hid hs
    go_enter Try.func4, Try.ntmps4
    go_wp2_with (first
      | (go_at_call 9; (with_reducible refine (hnw _).mono ?_); rintro e w2 ⟨rfl, rfl⟩)
      | (go_at_call 10; (with_reducible refine (hrw _).mono ?_); rintro e w3 ⟨rfl, rfl⟩)
      | (go_at_call 26; (with_reducible refine (hfx _).mono ?_); rintro e w19 ⟨rfl, hq⟩))
    go_returns
    exact ⟨rfl, hq⟩
end Go.Proofs.Ytgomnnddfddkhaa.VF
