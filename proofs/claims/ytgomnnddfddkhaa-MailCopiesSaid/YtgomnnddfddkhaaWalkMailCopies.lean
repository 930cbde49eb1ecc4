/-
  Chapter 08: the walk of the law MailCopies.
-/
import Derived.Test.YtgomnnddfddkhaaMailRows
import Derived.Test.YtgomnnddfddkhaaStrRow
import Derived.Deep.RegionHeld3
import Derived.Deep.Cut
namespace Go.Proofs.Ytgomnnddfddkhaa.VF
open Go.RowKit Go.Conc Go.Proofs.Ytgomnnddfddkhaa Go.Proofs.Ytgomnnddfddkhaa.ML
attribute [local go_sem] max2_int min2_int max_two min_two

theorem new_16 (w : World) : Calls Try.prog 9 #[.int .i64 16] w fun e w' => e = .returned (.tuple #[.pointer (some ⟨w.heap.size + 1, 0, none⟩), .int .i64 0]) ∧ MAt w' (w.heap.size + 1) w.heap.size 16 [] ∧ Below w.heap.size w w' := new_walk 16 (by omega) (by omega) w
theorem strs_cell {w w1 : World} {a : Option Addr} {len cap : Nat} {zs : List ByteArray} (h : SR.IsStrs w a len cap zs) {i N : Nat} (hi : i < len) (hN : w.heap.size ≤ N) (hb : Below N w w1) : ∃ x, a = some x ∧ w1.cell? (x.add i) = some (.string (zs.getD i ByteArray.empty)) := by
  rcases h with ⟨_, rfl, _, _⟩ | ⟨x, hx, hl, _, hz, hc, _⟩
  · omega
  · exact ⟨x, hx, low_cell hN hb (hc i (by omega))⟩
set_option maxHeartbeats 8000000 in
set_option maxRecDepth 100000 in
theorem MailCopies_walk (a0 : Option Addr) (len0 cap0 : Nat) (z0 : List ByteArray) (w : World) (w0 : SR.IsStrs w a0 len0 cap0 z0) (_y0 : len0 * 16 ≤ 140737488351232) :
    Calls Try.prog 7 #[.slice a0 len0 cap0] w fun e w' => e = .returned (.bool true) ∧ Below w.heap.size w w' := by
  have hfx := fixed_walk
  obtain ⟨i0, hi9, hz9⟩ := Option.map_eq_some_iff.1 info9
  simp only [Prod.mk.injEq] at hz9
  obtain ⟨hz0, hz1, hz2⟩ := hz9
  go_enter Try.func7, Try.ntmps7
  go_wp2_with (go_at_call 9; (with_reducible refine (new_16 _).mono ?_); rintro e w2 ⟨rfl, hm, hb⟩
               have b0 := MO.new (N := w.heap.size) (w0 := w) hm hb (Nat.le_refl _) (Below.refl _ _)
               clear hm hb)
  have hlit := World.ownsRow_lit (base := w.heap.size) (e := 9) (size := 1) w2 #[] 0 b0.base (by decide) rfl
  have b0a := b0.alloc (.cells #[] 9)
  go_loopw [5, 6] (fun v5 v6 wr => ∃ (i : Nat) (o : Option Addr) (k : Nat) (L : List ByteArray), v5 = .slice o i k ∧ v6 = .int .i64 i ∧ L.length = i ∧ i ≤ len0 ∧ i ≤ 16 ∧ wr.ownsRow w.heap.size 9 1 (.slice o i k) i (L.map Value.string) ∧ MO w.heap.size w wr (w.heap.size + 1) w.heap.size 16 L) (fun _ i _ => 16 - (intOf i).toNat)
  case atStart => exact ⟨0, _, _, [], rfl, rfl, rfl, Nat.zero_le _, Nat.zero_le _, hlit, b0a⟩
  case round =>
    obtain ⟨i, o, k, L, rfl, rfl, hL, hi, hi2, hrow, b1⟩ := hrel
    clear b0 b0a hlit
    by_cases hgo : i < len0 ∧ i < 16
    · obtain ⟨hlt, hlt2⟩ := hgo
      obtain ⟨x, rfl, hc⟩ := strs_cell w0 hlt (Nat.le_refl _) b1.bel
      generalize z0.getD i ByteArray.empty = s at *
      obtain ⟨j, hj, bj0, bj1, bj2⟩ := cut40 s
      obtain ⟨S, hS⟩ : ∃ S, s.extract 0 j.toNat = S := ⟨_, rfl⟩
      have e1 : putT 16 L S = L ++ [S] := by unfold putT; rw [if_pos (by omega)]
      have e1 := Lib.hid e1
      have hrow3 := hrow.drew.alloc (.cells #[.string S] 9)
      have b1d := b1.drew.alloc (.cells #[.string S] 9)
      clear hrow
      go_wp2
      go_region
      go_wp2_with (first
        | (at_builtin; refine wpList_append_own_at _ rfl (.tmp 42) (.tmp 44) 36 rfl w.heap.size 9 i0 (.string ⟨#[]⟩) 1 16 Try.underlying36 hi9 hz0 hz1 hz2 rfl (by decide) (.slice o i k) i (L.map Value.string) rfl hrow3 ⟨wr.heap.size, 0, none⟩ 1 1 [.string S] rfl rfl (World.news_of_block (cs := #[.string S]) (t := 9) (fr := (0, 0)) (heap_alloc_new wr.drew _)) (by simp [Value.oneCell']) (by simp only [maxLen]; omega) (by omega) (by have := b1.base; simp; omega) ?_; intro v w5 hown hgr _ _
           have b5 := b1d.grown hrow3 hgr
           obtain ⟨vo, vc, rfl⟩ := own_form hown
           have hown5 : w5.ownsRow w.heap.size 9 1 (.slice vo (i + 1) vc) (i + 1) ((L ++ [S]).map Value.string) := by rw [List.map_append]; exact hown
           clear hgr hown hrow3 b1d)
        | (go_at_call 11; (with_reducible refine (put_walk b5.at_ S).mono ?_); rintro e w6 ⟨rfl, hm, hK⟩
           have hown6 := own_keeps hown5 b5.at_ hK
           have b6 := MO.eq (m := L ++ [S]) (b5.own hm hK) e1.out
           clear hm hK))
      go_roundw
      case rel => exact ⟨i + 1, vo, vc, L ++ [S], rfl, by go_num, by simp [hL], by omega, by omega, hown6, b6⟩
      case measure => simp [intOf]; omega
    · have hx : i < len0 ∧ ¬ i < 16 ∨ ¬ i < len0 := by
        by_cases h : i < len0
        · exact .inl ⟨h, fun g => hgo ⟨h, g⟩⟩
        · exact .inr h
      clear hgo
      have hLl := Lib.hid hL
      subst hL
      have hl5 : L.length ≤ 100000 := by omega
      have r1 : putE 16 [] = 0 := rfl
      rcases hx with ⟨hlt, hlt2⟩ | hlt
      all_goals
        go_wp2_with (first
          | (go_at_call 20; (with_reducible refine (copy_walk b1.at_ (by decide)).mono ?_); rintro e w10 ⟨D, q, rfl, hd1, hm, hK, hD, hq⟩
             have b2 := b1.own hm hK
             have d2 : MO w.heap.size w w10 D q 16 L := ⟨hd1, b2.bel, b2.base, Nat.le_trans b1.base hD, Nat.le_trans b1.base hq⟩
             have sp := Lib.hid (Sep.fresh (B := D) (d := q) b1.at_ hD hq)
             have r2 := own_keeps hrow b1.at_ hK
             clear hd1 hm hK hD hq)
          | (go_at_call 24; (with_reducible refine (len_walk d2.at_).mono ?_); rintro e w7 ⟨rfl, rfl⟩)
          | (go_at_call 25; (with_reducible refine (room_walk d2.at_ (by decide)).mono ?_); rintro e w11 ⟨rfl, rfl⟩
             have b3 := b2.drew
             have d3 := d2.drew
             have r3 := r2.drew)
          | (go_at_call 18; (with_reducible refine (all_walk d3.at_ hl5).mono ?_); rintro e w12 ⟨o1, k1, rfl, hrw, hm, hK⟩
             have d4 := d3.own hm hK
             have b4 := b3.other d4 hK sp.out.symm
             have r4 := own_keeps r3 d3.at_ hK
             clear hm hK)
          | (go_at_call 11; (with_reducible refine (put_walk d4.at_ ⟨#[115, 112, 111, 105, 108, 116]⟩).mono ?_); rintro e w13 ⟨rfl, hm, hK⟩
             have d5 := MO.eq (m := [⟨#[115, 112, 111, 105, 108, 116]⟩]) (d4.own hm hK) rfl
             have b5 := b4.other d5 hK sp.out.symm
             have r5 := own_keeps r4 d4.at_ hK
             have q5 := own_keeps hrw d4.at_ hK
             have hsm := same_walk (k1 := k1) (k2 := k) (SRow.own q5) (SRow.own r5) (by omega)
             clear hm hK)
          | (go_at_call 17; (with_reducible refine hsm.mono ?_); rintro e w16 ⟨rfl, hb⟩
             have b6 := b5.below hb
             have d6 := d5.below hb
             have r6 := own_below r5 hb
             clear hb hsm)
          | (go_at_call 24; (with_reducible refine (len_walk b6.at_).mono ?_); rintro e w7 ⟨rfl, rfl⟩)
          | (go_at_call 18; (with_reducible refine (all_walk b6.at_ hl5).mono ?_); rintro e w17 ⟨o2, k2, rfl, hrw2, hm, hK⟩
             have b7 := b6.own hm hK
             have d7 := d6.other b7 hK sp.out
             have r7 := own_keeps r6 b6.at_ hK
             have hsm2 := same_walk (k1 := k2) (k2 := k) (SRow.own hrw2) (SRow.own r7) (by omega)
             clear hm hK)
          | (go_at_call 17; (with_reducible refine hsm2.mono ?_); rintro e w18 ⟨rfl, hb⟩
             have d8 := d7.below hb
             clear hb hsm2)
          | (go_at_call 24; (with_reducible refine (len_walk d8.at_).mono ?_); rintro e w7 ⟨rfl, rfl⟩)
          | (go_at_call 26; (with_reducible refine (hfx _).mono ?_); rintro e w19 ⟨rfl, hq⟩
             have h10 := d8.below hq
             clear hq))
        go_returns
        exact ⟨rfl, h10.bel⟩
end Go.Proofs.Ytgomnnddfddkhaa.VF
