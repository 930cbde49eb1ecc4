/-
  Chapter 09: the walk of the law DiskSyncs.
-/
import Derived.Test.YtkmgbgolpogmpaaDskOff
import Derived.Deep.RegionHeld3
import Derived.Deep.Cut
namespace Go.Proofs.Ytkmgbgolpogmpaa.VF
open Go.RowKit Go.Proofs.Ytkmgbgolpogmpaa Go.Proofs.Ytkmgbgolpogmpaa.DK
attribute [local go_sem] max2_int min2_int max_two min_two

/-- What was read lies in a block of its own. -/
structure Was (w : World) (B : Nat) (n : Four) (A : Nat) (W : Value) : Prop where
  heap : w.heap[B]? = some (.cells #[.string n.a, .string n.b, .string n.c, .string n.d] 26 (0, 0))
  a : B ≠ A
  b : W.ownBlock ≠ some B
theorem Was.lt {w : World} {B A : Nat} {n : Four} {W : Value} (h : Was w B n A W) : B < w.heap.size := (Array.getElem?_eq_some_iff.1 h.heap).1
theorem Was.keeps {w w2 : World} {B A : Nat} {n : Four} {W W2 : Value} (h : Was w B n A W) (hK : Keeps w w2 A W) (hW : W2.ownBlock = W.ownBlock ∨ ∀ b, W2.ownBlock = some b → w.heap.size ≤ b) : Was w2 B n A W2 :=
  have hlt := h.lt
  ⟨hK.same h.heap h.a h.b, h.a, fun e => by
    rcases hW with g | g
    · rw [g] at e; exact h.b e
    · have := g _ e; omega⟩
theorem next_kept (st : St) {o : OpV} (h : o.kind = 0 ∨ o.kind = 1) : (next st o).k = st.k := by
  rcases h with h | h
  · rw [(next_0 st h).2]
    unfold appendT
    split <;> rfl
  · rw [(next_1 st h).2]
    unfold replaceT
    split <;> rfl
set_option maxHeartbeats 8000000 in
set_option maxRecDepth 100000 in
theorem DiskSyncs_walk (a0 : Option Addr) (len0 cap0 : Nat) (z0 : Nat → OpV) (a1 : Option Addr) (len1 cap1 : Nat) (z1 : Nat → OpV) (w : World) (w0 : IsOps w a0 len0 z0) (w1 : IsOps w a1 len1 z1) :
    Calls Try.prog 7 #[.slice a0 len0 cap0, .slice a1 len1 cap1] w fun e w' => e = .returned (.bool true) ∧ Below w.heap.size w w' := by
  have hn := Own.new w
  have hfx := fixed_walk
  go_enter Try.func7, Try.ntmps7
  go_wp2_with (go_at_call 9; (with_reducible refine (new_walk _).mono ?_); rintro e w1 ⟨rfl, rfl⟩)
  go_loopw [6] (fun v6 wr => ∃ (i : Nat) (W : Value) (st : St), v6 = .int .i64 i ∧ i ≤ len0 ∧ i ≤ 60 ∧ Own w.heap.size w wr w.heap.size W st.n st.k st.l ∧ Sound i st) (fun i _ => 60 - (intOf i).toNat)
  case atStart => exact ⟨0, .slice none 0 0, ⟨zero4, zero4, []⟩, rfl, Nat.zero_le _, Nat.zero_le _, hn, Sound.zero 0⟩
  case round =>
    obtain ⟨i, W, st, rfl, hi, hi2, hO, hS⟩ := hrel
    by_cases hgo : i < len0 ∧ i < 60
    · obtain ⟨hlt, hlt2⟩ := hgo
      rcases w0.below (Nat.le_refl _) hO.bel with h | ⟨x, rfl, hm, hc⟩
      · omega
      obtain ⟨c0, c1, c2, c3, hzs⟩ := hc i hlt
      clear hc w0 hn
      obtain ⟨o, ho⟩ : ∃ o, z0 i = o := ⟨_, rfl⟩
      rw [ho] at c0 c1 c2 c3 hzs
      clear ho z0
      obtain ⟨kd, fl, s, nn⟩ := o
      simp only at c0 c1 c2 c3 hzs
      obtain ⟨d1, d2, d3⟩ := four_cells _ c0 c1 c2 c3
      have hpl0 := play_calls hO.at_ hS (by omega) kd fl s nn
      have hS2 := Lib.hid (hS.next ⟨kd, fl, s, nn⟩)
      generalize next st _ = st2 at *
      go_wp2_with (first
        | (go_at_call 14; (with_reducible refine hpl0.mono ?_); rintro e w2 ⟨rfl, hq⟩
           obtain ⟨W2, hO2, hK2, _⟩ := hO.puts hq
           clear hq hK2))
      go_roundw
      case rel => exact ⟨i + 1, W2, st2, by go_num, by omega, by omega, hO2, hS2.out⟩
      case measure => simp [intOf]; omega
    · obtain ⟨n, k, l⟩ := st
      have hnz := hS.now_le
      simp only at hO hnz
      have hx : i < len0 ∧ ¬ i < 60 ∨ ¬ i < len0 := by
        by_cases h : i < len0
        · exact .inl ⟨h, fun g => hgo ⟨h, g⟩⟩
        · exact .inr h
      clear hgo hS
      have hnz := Lib.hid hnz
      rcases hx with ⟨hlt, hlt2⟩ | hlt
      all_goals
        go_wp2_with (first
          | (go_at_call 13; (with_reducible refine (sync_walk hO.at_).mono ?_); rintro e w3 ⟨rfl, hq, hK⟩
             have h3 := hO.nil hq hK
             clear hq hK)
          | (go_at_call 18; (with_reducible refine (read_walk h3.at_ 0).mono ?_); rintro e w7 ⟨rfl, rfl⟩)
          | (go_at_call 18; (with_reducible refine (read_walk h3.at_ 1).mono ?_); rintro e w7 ⟨rfl, rfl⟩)
          | (go_at_call 18; (with_reducible refine (read_walk h3.at_ 2).mono ?_); rintro e w7 ⟨rfl, rfl⟩)
          | (go_at_call 18; (with_reducible refine (read_walk h3.at_ 3).mono ?_); rintro e w7 ⟨rfl, rfl⟩))
        have hWas0 : Was (w3.alloc (.cells #[.string n.a, .string n.b, .string n.c, .string n.d] 26)) w3.heap.size n w.heap.size (.slice none 0 0) := ⟨heap_alloc_new w3 _, by have := h3.at_.lt; omega, by simp [Value.ownBlock]⟩
        have h4 := h3.alloc (.cells #[.string n.a, .string n.b, .string n.c, .string n.d] 26)
        go_loopw [8] (fun v8 wx => ∃ (j : Nat) (W2 : Value) (st : St), v8 = .int .i64 j ∧ j ≤ len1 ∧ j ≤ 60 ∧ Own w.heap.size w wx w.heap.size W2 st.n st.k st.l ∧ Sound j st ∧ Hid (st.k = n) ∧ Was wx w3.heap.size n w.heap.size W2) (fun i _ => 60 - (intOf i).toNat)
        case atStart => exact ⟨0, _, ⟨n, n, []⟩, rfl, Nat.zero_le _, Nat.zero_le _, h4, Sound.sure 0 hnz.out, Lib.hid rfl, hWas0⟩
        case round =>
          obtain ⟨j, W2, st, rfl, hj, hj2, hP, hS, hk, hWas⟩ := hrel
          clear hWas0 h4 h3
          have b0 : wr.cell? ⟨w3.heap.size, 0, none⟩ = some (.string (n.at 0)) := cell_of hWas.heap 0
          have b1 : wr.cell? ⟨w3.heap.size, 1, none⟩ = some (.string (n.at 1)) := cell_of hWas.heap 1
          have b2 : wr.cell? ⟨w3.heap.size, 2, none⟩ = some (.string (n.at 2)) := cell_of hWas.heap 2
          have b3 : wr.cell? ⟨w3.heap.size, 3, none⟩ = some (.string (n.at 3)) := cell_of hWas.heap 3
          by_cases hgo : j < len1 ∧ j < 60
          · obtain ⟨hjt, hjt2⟩ := hgo
            rcases w1.below (Nat.le_refl _) hP.bel with h | ⟨x, rfl, hm, hc⟩
            · omega
            obtain ⟨c0, c1, c2, c3, hzs⟩ := hc j hjt
            clear hc w0 w1 hn
            obtain ⟨o, ho⟩ : ∃ o, z1 j = o := ⟨_, rfl⟩
            rw [ho] at c0 c1 c2 c3 hzs
            clear ho z1
            obtain ⟨kd, fl, s, nn⟩ := o
            simp only at c0 c1 c2 c3 hzs
            obtain ⟨d1, d2, d3⟩ := four_cells _ c0 c1 c2 c3
            by_cases hk01 : kd = 0 ∨ kd = 1
            · have hpl0 := play_calls hP.at_ hS (by omega) kd fl s nn
              have hS2 := Lib.hid (hS.next ⟨kd, fl, s, nn⟩)
              have hk2 : (next st ⟨kd, fl, s, nn⟩).k = n := (next_kept st hk01).trans hk.out
              generalize next st _ = st2 at *
              obtain ⟨n2, k2, l2⟩ := st2
              simp only at hpl0 hk2
              subst hk2
              rcases hk01 with rfl | rfl
              all_goals
                go_upto_region 17 with (first
                  | (go_at_call 14; (with_reducible refine hpl0.mono ?_); rintro e w5 ⟨rfl, hq⟩
                     obtain ⟨W5, hO5, hK5, hW5⟩ := hP.puts hq
                     have hWas5 := hWas.keeps hK5 hW5
                     have e0 : w5.cell? ⟨w3.heap.size, 0, none⟩ = some (.string (k2.at 0)) := cell_of hWas5.heap 0
                     have e1 : w5.cell? ⟨w3.heap.size, 1, none⟩ = some (.string (k2.at 1)) := cell_of hWas5.heap 1
                     have e2 : w5.cell? ⟨w3.heap.size, 2, none⟩ = some (.string (k2.at 2)) := cell_of hWas5.heap 2
                     have e3 : w5.cell? ⟨w3.heap.size, 3, none⟩ = some (.string (k2.at 3)) := cell_of hWas5.heap 3
                     clear hq hK5 hW5))
                have hd5 := hO5.drew
                go_region_held3 (fun W => W.cell? ⟨w3.heap.size, 0, none⟩ = some (.string (k2.at 0)) ∧ W.cell? ⟨w3.heap.size, 1, none⟩ = some (.string (k2.at 1)) ∧ W.cell? ⟨w3.heap.size, 2, none⟩ = some (.string (k2.at 2)) ∧ W.cell? ⟨w3.heap.size, 3, none⟩ = some (.string (k2.at 3))) (exact ⟨e0, e1, e2, e3⟩) (first
                  | (go_at_call 20; (with_reducible refine (kept_walk hd5.at_ 0).mono ?_); rintro e w7 ⟨rfl, rfl⟩)
                  | (go_at_call 20; (with_reducible refine (kept_walk hd5.at_ 1).mono ?_); rintro e w7 ⟨rfl, rfl⟩)
                  | (go_at_call 20; (with_reducible refine (kept_walk hd5.at_ 2).mono ?_); rintro e w7 ⟨rfl, rfl⟩)
                  | (go_at_call 20; (with_reducible refine (kept_walk hd5.at_ 3).mono ?_); rintro e w7 ⟨rfl, rfl⟩))
                go_wp2
                go_roundw
                case rel => exact ⟨j + 1, W5, ⟨n2, k2, l2⟩, by go_num, by omega, by omega, hd5, hS2.out, Lib.hid rfl, ⟨hWas5.heap, hWas5.a, hWas5.b⟩⟩
                case measure => simp [intOf]; omega
            · have hk0 : ¬ kd = 0 := fun h => hk01 (.inl h)
              have hk1 : ¬ kd = 1 := fun h => hk01 (.inr h)
              clear hk01
              have hb0 : (kd == 0) = false := by simpa using hk0
              have hb1 : (kd == 1) = false := by simpa using hk1
              obtain ⟨n2, k2, l2⟩ := st
              obtain rfl := hk.out
              simp only at hP
              go_upto_region 17 with fail
              have hd5 := hP.drew
              go_region_held3 (fun W => W.cell? ⟨w3.heap.size, 0, none⟩ = some (.string (k2.at 0)) ∧ W.cell? ⟨w3.heap.size, 1, none⟩ = some (.string (k2.at 1)) ∧ W.cell? ⟨w3.heap.size, 2, none⟩ = some (.string (k2.at 2)) ∧ W.cell? ⟨w3.heap.size, 3, none⟩ = some (.string (k2.at 3))) (exact ⟨b0, b1, b2, b3⟩) (first
                | (go_at_call 20; (with_reducible refine (kept_walk hd5.at_ 0).mono ?_); rintro e w7 ⟨rfl, rfl⟩)
                | (go_at_call 20; (with_reducible refine (kept_walk hd5.at_ 1).mono ?_); rintro e w7 ⟨rfl, rfl⟩)
                | (go_at_call 20; (with_reducible refine (kept_walk hd5.at_ 2).mono ?_); rintro e w7 ⟨rfl, rfl⟩)
                | (go_at_call 20; (with_reducible refine (kept_walk hd5.at_ 3).mono ?_); rintro e w7 ⟨rfl, rfl⟩))
              go_wp2
              go_roundw
              case rel => exact ⟨j + 1, W2, ⟨n2, k2, l2⟩, by go_num, by omega, by omega, hd5, hS.mono (Nat.le_succ _), Lib.hid rfl, ⟨hWas.heap, hWas.a, hWas.b⟩⟩
              case measure => simp [intOf]; omega
          · have hF := hS.fine (by omega)
            obtain ⟨n2, k2, l2⟩ := st
            obtain rfl := hk.out
            simp only at hP hF
            have hx : j < len1 ∧ ¬ j < 60 ∨ ¬ j < len1 := by
              by_cases h : j < len1
              · exact .inl ⟨h, fun g => hgo ⟨h, g⟩⟩
              · exact .inr h
            have g2 : staysN 0 (unitsOf l2) = 0 := by unfold staysN; omega
            have g5 : stays l2 0 k2 = k2 := stays_zero l2 k2
            clear hgo hS hk
            rcases hx with ⟨hjt, hjt2⟩ | hjt
            all_goals
              go_upto_region 20 with (first
                | (go_at_call 23; (with_reducible refine (crash_walk hP.at_ hF 0).mono ?_); rintro e w5 ⟨rfl, hq, hK⟩
                   have hO5 := hP.nil hq hK
                   rw [g2, g5] at hO5
                   have hWas5 := hWas.keeps hK (W2 := .slice none 0 0) (.inr (fun b e => by rw [nil_own] at e; cases e))
                   have hlt5 := hWas5.lt
                   have e0 : w5.cell? ⟨w3.heap.size, 0, none⟩ = some (.string (k2.at 0)) := cell_of hWas5.heap 0
                   have e1 : w5.cell? ⟨w3.heap.size, 1, none⟩ = some (.string (k2.at 1)) := cell_of hWas5.heap 1
                   have e2 : w5.cell? ⟨w3.heap.size, 2, none⟩ = some (.string (k2.at 2)) := cell_of hWas5.heap 2
                   have e3 : w5.cell? ⟨w3.heap.size, 3, none⟩ = some (.string (k2.at 3)) := cell_of hWas5.heap 3
                   clear hq hK))
              have hd5 := hO5.drew
              go_region_held3 (fun W => W.cell? ⟨w3.heap.size, 0, none⟩ = some (.string (k2.at 0)) ∧ W.cell? ⟨w3.heap.size, 1, none⟩ = some (.string (k2.at 1)) ∧ W.cell? ⟨w3.heap.size, 2, none⟩ = some (.string (k2.at 2)) ∧ W.cell? ⟨w3.heap.size, 3, none⟩ = some (.string (k2.at 3))) (first | exact ⟨e0, e1, e2, e3⟩ | exact ⟨f0, f1, f2, f3⟩) (first
                | (go_at_call 18; (with_reducible refine (read_walk hd5.at_ 0).mono ?_); rintro e w7 ⟨rfl, rfl⟩)
                | (go_at_call 18; (with_reducible refine (read_walk hd5.at_ 1).mono ?_); rintro e w7 ⟨rfl, rfl⟩)
                | (go_at_call 18; (with_reducible refine (read_walk hd5.at_ 2).mono ?_); rintro e w7 ⟨rfl, rfl⟩)
                | (go_at_call 18; (with_reducible refine (read_walk hd5.at_ 3).mono ?_); rintro e w7 ⟨rfl, rfl⟩)
                | (go_at_call 22; (with_reducible refine (hfx _).mono ?_); rintro e w10 ⟨rfl, hb⟩
                   have h10 := hd5.below hb
                   have f0 := (hb.cell (p := ⟨w3.heap.size, 0, none⟩) hlt5).trans e0
                   have f1 := (hb.cell (p := ⟨w3.heap.size, 1, none⟩) hlt5).trans e1
                   have f2 := (hb.cell (p := ⟨w3.heap.size, 2, none⟩) hlt5).trans e2
                   have f3 := (hb.cell (p := ⟨w3.heap.size, 3, none⟩) hlt5).trans e3
                   clear hb))
              go_wp2
              go_returns
              exact ⟨rfl, h10.bel⟩
end Go.Proofs.Ytkmgbgolpogmpaa.VF
