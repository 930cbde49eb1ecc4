/-
  Chapter 09: the walk of the law DiskApart.
-/
import Derived.Test.YtkmgbgolpogmpaaDskOff
namespace Go.Proofs.Ytkmgbgolpogmpaa.VF
open Go.RowKit Go.Proofs.Ytkmgbgolpogmpaa Go.Proofs.Ytkmgbgolpogmpaa.DK
attribute [local go_sem] max2_int min2_int max_two min_two

theorem apart_law {st : St} {i : Nat} (hi : i < 60) (hz : ∀ f, (st.n.at f).size ≤ 60 * i) {kd fl : Int} {s : ByteArray} {nn : Int} (hk : kd = 0 ∨ kd = 1) :
    (0 ≤ fl ∧ fl < 4 → ans st ⟨kd, fl, s, nn⟩ = 0 ∧ ∀ f, (next st ⟨kd, fl, s, nn⟩).n.at f = if fl = f then (if kd = 0 then st.n.at f ++ OpV.cut ⟨kd, fl, s, nn⟩ else OpV.cut ⟨kd, fl, s, nn⟩) else st.n.at f) ∧
    (¬ (0 ≤ fl ∧ fl < 4) → ans st ⟨kd, fl, s, nn⟩ = 1 ∧ next st ⟨kd, fl, s, nn⟩ = st) ∧ ∀ f, ((next st ⟨kd, fl, s, nn⟩).n.at f).size ≤ 60 * (i + 1) := by
  have hc := OpV.cut_le ⟨kd, fl, s, nn⟩
  have hz1 := hz fl
  rcases hk with rfl | rfl
  · obtain ⟨ea, en⟩ := next_0 st (o := ⟨0, fl, s, nn⟩) rfl
    rw [ea, en]
    simp only at *
    by_cases h : 0 ≤ fl ∧ fl < 4
    · have h0 : appendS st.n fl (OpV.cut ⟨0, fl, s, nn⟩) = 0 := by
        unfold appendS
        rw [if_neg (by simp [h]), if_neg (by omega)]
      have e : appendT st fl (OpV.cut ⟨0, fl, s, nn⟩) = ⟨st.n.to fl (st.n.at fl ++ OpV.cut ⟨0, fl, s, nn⟩), st.k, st.l ++ [⟨false, fl, OpV.cut ⟨0, fl, s, nn⟩⟩]⟩ := by unfold appendT; rw [if_pos h0]
      rw [e, h0]
      have hat : ∀ f, (st.n.to fl (st.n.at fl ++ OpV.cut ⟨0, fl, s, nn⟩)).at f = if fl = f then st.n.at f ++ OpV.cut ⟨0, fl, s, nn⟩ else st.n.at f := by
        intro f
        rw [at_to]
        by_cases hf : fl = f
        · subst hf
          rw [if_pos ⟨h.1, h.2, rfl⟩, if_pos rfl]
        · rw [if_neg (by omega), if_neg hf]
      refine ⟨fun _ => ⟨rfl, fun f => ?_⟩, fun g => absurd h g, fun f => ?_⟩
      · simpa using hat f
      · show ((st.n.to fl (st.n.at fl ++ OpV.cut ⟨0, fl, s, nn⟩)).at f).size ≤ _
        rw [hat]
        have := hz f
        split
        · rw [ByteArray.size_append]; omega
        · omega
    · have h0 : appendS st.n fl (OpV.cut ⟨0, fl, s, nn⟩) = 1 := by
        unfold appendS
        rw [if_pos h]
      have e : appendT st fl (OpV.cut ⟨0, fl, s, nn⟩) = st := by unfold appendT; rw [if_neg (by omega)]
      rw [e, h0]
      exact ⟨fun g => absurd g h, fun _ => ⟨rfl, rfl⟩, fun f => by have := hz f; omega⟩
  · obtain ⟨ea, en⟩ := next_1 st (o := ⟨1, fl, s, nn⟩) rfl
    rw [ea, en]
    simp only at *
    by_cases h : 0 ≤ fl ∧ fl < 4
    · have h0 : replaceS fl (OpV.cut ⟨1, fl, s, nn⟩) = 0 := by
        unfold replaceS
        rw [if_neg (by simp [h]), if_neg (by omega)]
      have e : replaceT st fl (OpV.cut ⟨1, fl, s, nn⟩) = ⟨st.n.to fl (OpV.cut ⟨1, fl, s, nn⟩), st.k, st.l ++ [⟨true, fl, OpV.cut ⟨1, fl, s, nn⟩⟩]⟩ := by unfold replaceT; rw [if_pos h0]
      rw [e, h0]
      have hat : ∀ f, (st.n.to fl (OpV.cut ⟨1, fl, s, nn⟩)).at f = if fl = f then OpV.cut ⟨1, fl, s, nn⟩ else st.n.at f := by
        intro f
        rw [at_to]
        by_cases hf : fl = f
        · subst hf
          rw [if_pos ⟨h.1, h.2, rfl⟩, if_pos rfl]
        · rw [if_neg (by omega), if_neg hf]
      refine ⟨fun _ => ⟨rfl, fun f => ?_⟩, fun g => absurd h g, fun f => ?_⟩
      · simpa using hat f
      · show ((st.n.to fl (OpV.cut ⟨1, fl, s, nn⟩)).at f).size ≤ _
        rw [hat]
        have := hz f
        split <;> omega
    · have h0 : replaceS fl (OpV.cut ⟨1, fl, s, nn⟩) = 1 := by
        unfold replaceS
        rw [if_pos h]
      have e : replaceT st fl (OpV.cut ⟨1, fl, s, nn⟩) = st := by unfold replaceT; rw [if_neg (by omega)]
      rw [e, h0]
      exact ⟨fun g => absurd g h, fun _ => ⟨rfl, rfl⟩, fun f => by have := hz f; omega⟩
theorem two_new (w : World) (o1 o2 : Obj) : ((w.alloc o1).alloc o2).heap[w.heap.size]? = some o1 ∧ ((w.alloc o1).alloc o2).heap[w.heap.size + 1]? = some o2 := by
  refine ⟨(Below.heap_alloc _ _ _ (by simp)).trans (heap_alloc_new w o1), ?_⟩
  have := heap_alloc_new (w.alloc o1) o2
  simpa using this
theorem four_cell {w : World} {B : Nat} {n : Four} {t : TypeId} (h : w.heap[B]? = some (.cells #[.string n.a, .string n.b, .string n.c, .string n.d] t (0, 0))) {j : Nat} (hj : j < 4) : w.cell? ⟨B, j, none⟩ = some (.string (n.at j)) := by
  rw [cell_of h]
  match j, hj with
  | 0, _ => rfl
  | 1, _ => rfl
  | 2, _ => rfl
  | 3, _ => rfl
set_option maxHeartbeats 4000000 in
set_option maxRecDepth 100000 in
theorem DiskApart_walk (a0 : Option Addr) (len0 cap0 : Nat) (z0 : Nat → OpV) (w : World) (w0 : IsOps w a0 len0 z0) :
    Calls Try.prog 8 #[.slice a0 len0 cap0] w fun e w' => e = .returned (.bool true) ∧ Below w.heap.size w w' := by
  have hn := Own.new w
  have hfx := fixed_walk
  go_enter Try.func8, Try.ntmps8
  go_wp2_with (go_at_call 9; (with_reducible refine (new_walk _).mono ?_); rintro e w1 ⟨rfl, rfl⟩)
  go_loopw [4] (fun v4 wr => ∃ (i : Nat) (W : Value) (st : St), v4 = .int .i64 i ∧ i ≤ len0 ∧ i ≤ 60 ∧ Own w.heap.size w wr w.heap.size W st.n st.k st.l ∧ Sound i st ∧ ∀ f, (st.n.at f).size ≤ 60 * i) (fun i _ => 60 - (intOf i).toNat)
  case atStart => exact ⟨0, .slice none 0 0, ⟨zero4, zero4, []⟩, rfl, Nat.zero_le _, Nat.zero_le _, hn, Sound.zero 0, at_le _ (by decide) (by decide) (by decide) (by decide)⟩
  case round =>
    obtain ⟨i, W, st, rfl, hi, hi2, hO, hS, hz⟩ := hrel
    by_cases hlt : i < len0
    · by_cases hlt2 : i < 60
      · rcases w0.below (Nat.le_refl _) hO.bel with h | ⟨x, rfl, hm, hc⟩
        · omega
        obtain ⟨c0, c1, c2, c3, hzs⟩ := hc i hlt
        clear hc w0 hn
        obtain ⟨o, ho⟩ : ∃ o, z0 i = o := ⟨_, rfl⟩
        rw [ho] at c0 c1 c2 c3 hzs
        clear ho z0
        obtain ⟨kd, fl, s, nn⟩ := o
        simp only at c0 c1 c2 c3 hzs
        obtain ⟨d1, d2, d3⟩ := four_cells _ c0 c1 c2 c3
        by_cases hk : kd = 0 ∨ kd = 1
        · obtain ⟨hin, hout, hz2⟩ := apart_law (st := st) (fl := fl) (s := s) (nn := nn) hlt2 hz hk
          have hpl0 := fun (w1 : World) (h1 : At w1 w.heap.size W st.n st.k st.l) => play_calls h1 hS (by omega) kd fl s nn
          have hS2 := hS.next ⟨kd, fl, s, nn⟩
          have hcl := OpV.cut_le ⟨kd, fl, s, nn⟩
          obtain ⟨j0, hj0⟩ : ∃ j : Int, (if 60 < (s.size : Int) then 60 else (s.size : Int)) = j := ⟨_, rfl⟩
          have bj : 0 ≤ j0 ∧ j0 ≤ s.size ∧ j0 ≤ 60 := by rw [← hj0]; split <;> omega
          obtain ⟨bj0, bj1, bj2⟩ := bj
          have hcj : s.extract 0 j0.toNat = OpV.cut ⟨kd, fl, s, nn⟩ := cut_of s hj0
          generalize OpV.cut _ = S at *
          generalize next st _ = st2 at *
          have hlt0 := hO.at_.lt
          have hWb := Lib.hid (fun b e => (hO.at_.row.lt b e).2 : ∀ b, W.ownBlock = some b → b < wr.heap.size)
          have hzh := Lib.hid hz
          clear hz
          have hS2 := Lib.hid hS2
          have hz2 := Lib.hid hz2
          by_cases hf : 0 ≤ fl
          · by_cases hf4 : fl < 4
            · obtain ⟨hr, hread⟩ := hin ⟨hf, hf4⟩
              rw [hr] at hpl0
              have hread := Lib.hid hread
              clear hin hout hr
              rcases hk with rfl | rfl
              all_goals
                go_wp2_with (first
                  | (go_at_call 18; (with_reducible refine (read_walk (hO.alloc _).at_ 0).mono ?_); rintro e w7 ⟨rfl, rfl⟩)
                  | (go_at_call 18; (with_reducible refine (read_walk (hO.alloc _).at_ 1).mono ?_); rintro e w7 ⟨rfl, rfl⟩)
                  | (go_at_call 18; (with_reducible refine (read_walk (hO.alloc _).at_ 2).mono ?_); rintro e w7 ⟨rfl, rfl⟩)
                  | (go_at_call 18; (with_reducible refine (read_walk (hO.alloc _).at_ 3).mono ?_); rintro e w7 ⟨rfl, rfl⟩)
                  | (go_at_call 14; (with_reducible refine (hpl0 _ ((hO.alloc _).alloc _).at_).mono ?_); rintro e w2 ⟨rfl, hq⟩
                     obtain ⟨W2, hO2, hK2, _⟩ := ((hO.alloc _).alloc _).puts hq
                     have hb1 := hK2.same (two_new wr _ _).1 (by omega) (fun e => by have := hWb.out _ e; omega)
                     have hb2 := hK2.same (two_new wr _ _).2 (by omega) (fun e => by have := hWb.out _ e; omega)
                     have k0 := cell_of hb1 0
                     have k1 := cell_of hb1 1
                     have k2 := cell_of hb1 2
                     clear hq hK2))
                go_loopw [9] (fun v9 wx => ∃ j : Nat, v9 = .int .i64 j ∧ j ≤ 4 ∧ wx = w2) (fun i _ => 4 - (intOf i).toNat)
                case atStart => exact ⟨0, rfl, by omega, rfl⟩
                case round =>
                  obtain ⟨j, rfl, hj, rfl⟩ := hrel
                  by_cases hj4 : j < 4
                  · have hw := four_cell hb2 hj4
                    have hrd := hread.out j
                    try have cc : (st.n.at j).size + S.size ≤ 9223372036854775807 := by have := hzh.out j; omega
                    by_cases hfj : fl = j
                    · first
                        | (exfalso; omega)
                        | (subst hfj
                           simp only [if_true, Int.reduceEq, if_false] at hrd
                           go_wp2_with (first
                             | (go_at_call 18; (with_reducible refine (read_walk hO2.at_ (j : Int)).mono ?_); rintro e w7 ⟨rfl, rfl⟩))
                           go_roundw
                           case rel => exact ⟨j + 1, by go_num, by omega, by trivial⟩
                           case measure => simp [intOf]; omega)
                    · try rw [if_neg hfj] at hrd
                      have hfb : ((j : Int) == fl) = false := by simpa using fun h : (j : Int) = fl => hfj h.symm
                      go_wp2_with (first
                        | (go_at_call 18; (with_reducible refine (read_walk hO2.at_ (j : Int)).mono ?_); rintro e w7 ⟨rfl, rfl⟩))
                      go_roundw
                      case rel => exact ⟨j + 1, by go_num, by omega, by trivial⟩
                      case measure => simp [intOf]; omega
                  · go_wp2
                    go_roundw
                    case rel => exact ⟨i + 1, W2, st2, by go_num, by omega, by omega, hO2, hS2.out, hz2.out⟩
                    case measure => simp [intOf]; omega
            · obtain ⟨hr, rfl⟩ := hout (by omega)
              rw [hr] at hpl0
              have hread := Lib.hid (fun (f : Int) => (rfl : st2.n.at f = st2.n.at f))
              clear hin hout hr
              rcases hk with rfl | rfl
              all_goals
                go_wp2_with (first
                  | (go_at_call 18; (with_reducible refine (read_walk (hO.alloc _).at_ 0).mono ?_); rintro e w7 ⟨rfl, rfl⟩)
                  | (go_at_call 18; (with_reducible refine (read_walk (hO.alloc _).at_ 1).mono ?_); rintro e w7 ⟨rfl, rfl⟩)
                  | (go_at_call 18; (with_reducible refine (read_walk (hO.alloc _).at_ 2).mono ?_); rintro e w7 ⟨rfl, rfl⟩)
                  | (go_at_call 18; (with_reducible refine (read_walk (hO.alloc _).at_ 3).mono ?_); rintro e w7 ⟨rfl, rfl⟩)
                  | (go_at_call 14; (with_reducible refine (hpl0 _ ((hO.alloc _).alloc _).at_).mono ?_); rintro e w2 ⟨rfl, hq⟩
                     obtain ⟨W2, hO2, hK2, _⟩ := ((hO.alloc _).alloc _).puts hq
                     have hb1 := hK2.same (two_new wr _ _).1 (by omega) (fun e => by have := hWb.out _ e; omega)
                     have hb2 := hK2.same (two_new wr _ _).2 (by omega) (fun e => by have := hWb.out _ e; omega)
                     have k0 := cell_of hb1 0
                     have k1 := cell_of hb1 1
                     have k2 := cell_of hb1 2
                     clear hq hK2))
                go_loopw [9] (fun v9 wx => ∃ j : Nat, v9 = .int .i64 j ∧ j ≤ 4 ∧ wx = w2) (fun i _ => 4 - (intOf i).toNat)
                case atStart => exact ⟨0, rfl, by omega, rfl⟩
                case round =>
                  obtain ⟨j, rfl, hj, rfl⟩ := hrel
                  by_cases hj4 : j < 4
                  · have hw := four_cell hb2 hj4
                    have hrd := hread.out j
                    try have cc : (st.n.at j).size + S.size ≤ 9223372036854775807 := by have := hzh.out j; omega
                    by_cases hfj : fl = j
                    · first
                        | (exfalso; omega)
                        | (subst hfj
                           simp only [if_true, Int.reduceEq, if_false] at hrd
                           go_wp2_with (first
                             | (go_at_call 18; (with_reducible refine (read_walk hO2.at_ (j : Int)).mono ?_); rintro e w7 ⟨rfl, rfl⟩))
                           go_roundw
                           case rel => exact ⟨j + 1, by go_num, by omega, by trivial⟩
                           case measure => simp [intOf]; omega)
                    · try rw [if_neg hfj] at hrd
                      have hfb : ((j : Int) == fl) = false := by simpa using fun h : (j : Int) = fl => hfj h.symm
                      go_wp2_with (first
                        | (go_at_call 18; (with_reducible refine (read_walk hO2.at_ (j : Int)).mono ?_); rintro e w7 ⟨rfl, rfl⟩))
                      go_roundw
                      case rel => exact ⟨j + 1, by go_num, by omega, by trivial⟩
                      case measure => simp [intOf]; omega
                  · go_wp2
                    go_roundw
                    case rel => exact ⟨i + 1, W2, st2, by go_num, by omega, by omega, hO2, hS2.out, hz2.out⟩
                    case measure => simp [intOf]; omega
          · obtain ⟨hr, rfl⟩ := hout (by omega)
            rw [hr] at hpl0
            have hread := Lib.hid (fun (f : Int) => (rfl : st2.n.at f = st2.n.at f))
            clear hin hout hr
            rcases hk with rfl | rfl
            all_goals
              go_wp2_with (first
                | (go_at_call 18; (with_reducible refine (read_walk (hO.alloc _).at_ 0).mono ?_); rintro e w7 ⟨rfl, rfl⟩)
                | (go_at_call 18; (with_reducible refine (read_walk (hO.alloc _).at_ 1).mono ?_); rintro e w7 ⟨rfl, rfl⟩)
                | (go_at_call 18; (with_reducible refine (read_walk (hO.alloc _).at_ 2).mono ?_); rintro e w7 ⟨rfl, rfl⟩)
                | (go_at_call 18; (with_reducible refine (read_walk (hO.alloc _).at_ 3).mono ?_); rintro e w7 ⟨rfl, rfl⟩)
                | (go_at_call 14; (with_reducible refine (hpl0 _ ((hO.alloc _).alloc _).at_).mono ?_); rintro e w2 ⟨rfl, hq⟩
                   obtain ⟨W2, hO2, hK2, _⟩ := ((hO.alloc _).alloc _).puts hq
                   have hb1 := hK2.same (two_new wr _ _).1 (by omega) (fun e => by have := hWb.out _ e; omega)
                   have hb2 := hK2.same (two_new wr _ _).2 (by omega) (fun e => by have := hWb.out _ e; omega)
                   have k0 := cell_of hb1 0
                   have k1 := cell_of hb1 1
                   have k2 := cell_of hb1 2
                   clear hq hK2))
              go_loopw [9] (fun v9 wx => ∃ j : Nat, v9 = .int .i64 j ∧ j ≤ 4 ∧ wx = w2) (fun i _ => 4 - (intOf i).toNat)
              case atStart => exact ⟨0, rfl, by omega, rfl⟩
              case round =>
                obtain ⟨j, rfl, hj, rfl⟩ := hrel
                by_cases hj4 : j < 4
                · have hw := four_cell hb2 hj4
                  have hrd := hread.out j
                  try have cc : (st.n.at j).size + S.size ≤ 9223372036854775807 := by have := hzh.out j; omega
                  by_cases hfj : fl = j
                  · first
                      | (exfalso; omega)
                      | (subst hfj
                         simp only [if_true, Int.reduceEq, if_false] at hrd
                         go_wp2_with (first
                           | (go_at_call 18; (with_reducible refine (read_walk hO2.at_ (j : Int)).mono ?_); rintro e w7 ⟨rfl, rfl⟩))
                         go_roundw
                         case rel => exact ⟨j + 1, by go_num, by omega, by trivial⟩
                         case measure => simp [intOf]; omega)
                  · try rw [if_neg hfj] at hrd
                    have hfb : ((j : Int) == fl) = false := by simpa using fun h : (j : Int) = fl => hfj h.symm
                    go_wp2_with (first
                      | (go_at_call 18; (with_reducible refine (read_walk hO2.at_ (j : Int)).mono ?_); rintro e w7 ⟨rfl, rfl⟩))
                    go_roundw
                    case rel => exact ⟨j + 1, by go_num, by omega, by trivial⟩
                    case measure => simp [intOf]; omega
                · go_wp2
                  go_roundw
                  case rel => exact ⟨i + 1, W2, st2, by go_num, by omega, by omega, hO2, hS2.out, hz2.out⟩
                  case measure => simp [intOf]; omega
        · have hk0 : ¬ kd = 0 := fun h => hk (.inl h)
          have hk1 : ¬ kd = 1 := fun h => hk (.inr h)
          clear hk
          have hb0 : (kd != 0) = true := by simpa using hk0
          have hb1 : (kd != 1) = true := by simpa using hk1
          go_wp2
          go_roundw
          case rel => exact ⟨i + 1, W, st, by go_num, by omega, by omega, hO.alloc _, hS.mono (Nat.le_succ _), fun f => by have := hz f; omega⟩
          case measure => simp [intOf]; omega
      · go_wp2_with (first | (go_at_call 22; (with_reducible refine (hfx _).mono ?_); rintro e w10 ⟨rfl, hq⟩
                              have h10 := hO.below hq
                              clear hq))
        go_returns
        exact ⟨rfl, h10.bel⟩
    · go_wp2_with (first | (go_at_call 22; (with_reducible refine (hfx _).mono ?_); rintro e w10 ⟨rfl, hq⟩
                            have h10 := hO.below hq
                            clear hq))
      go_returns
      exact ⟨rfl, h10.bel⟩
end Go.Proofs.Ytkmgbgolpogmpaa.VF
