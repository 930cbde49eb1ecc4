/-
  Chapter 09: the walk of the law DiskDoes.
-/
import Derived.Test.YtkmgbgolpogmpaaDskRef3
namespace Go.Proofs.Ytkmgbgolpogmpaa.DK
open Go.RowKit Go.Proofs.Ytkmgbgolpogmpaa
theorem IsOps.loads {w w1 : World} {x : Addr} {len : Nat} {z : Nat → OpV} (h : IsOps w (some x) len z) {i N : Nat} (hi : i < len) (hN : w.heap.size ≤ N) (hb : Below N w w1) :
    w1.cell? (x.add (i * 4)) = some (.int .i64 (z i).kind) ∧ w1.cell? ⟨(x.add (i * 4)).block, (x.add (i * 4)).off + 1, none⟩ = some (.int .i64 (z i).file) ∧
      w1.cell? ⟨(x.add (i * 4)).block, (x.add (i * 4)).off + 2, none⟩ = some (.string (z i).s) ∧ w1.cell? ⟨(x.add (i * 4)).block, (x.add (i * 4)).off + 3, none⟩ = some (.int .i64 (z i).n) := by
  rcases h.below hN hb with h | ⟨y, hy, hm, hc⟩
  · omega
  · cases hy
    obtain ⟨c0, c1, c2, c3, _⟩ := hc i hi
    exact ⟨c0, four_cells _ c0 c1 c2 c3⟩
theorem Off.grow2 {w : World} {A B : Nat} {V W W2 : Value} (h : Off B V A W) (hlt : B < w.heap.size) (hV : ∀ b, V.ownBlock = some b → b < w.heap.size) (hW : W2.ownBlock = W.ownBlock ∨ ∀ b, W2.ownBlock = some b → w.heap.size ≤ b) : Off B V A W2 :=
  ⟨h.a, h.b, (fun e => by
    rcases hW with g | g
    · rw [g] at e; exact h.c e
    · have := g _ e; omega), fun b e1 e2 => by
    rcases hW with g | g
    · rw [g] at e2; exact h.d b e1 e2
    · have := g _ e2; have := hV _ e1; omega⟩
/-- The document's disk, empty, new. -/
theorem RAt.new (w : World) : RAt (w.alloc (.cells (rcells zero4 (.slice none 0 0)) 29)) w.heap.size (.slice none 0 0) zero4 [] := ⟨heap_alloc_new w _, World.ownsRow_nil _ _ _ _, by simp [Value.ownBlock]⟩
end Go.Proofs.Ytkmgbgolpogmpaa.DK
namespace Go.Proofs.Ytkmgbgolpogmpaa.VF
open Go.RowKit Go.Proofs.Ytkmgbgolpogmpaa Go.Proofs.Ytkmgbgolpogmpaa.DK
attribute [local go_sem] max2_int min2_int max_two min_two

set_option maxHeartbeats 8000000 in
set_option maxRecDepth 100000 in
theorem DiskDoes_walk (a0 : Option Addr) (len0 cap0 : Nat) (z0 : Nat → OpV) (w : World) (w0 : IsOps w a0 len0 z0) :
    Calls Try.prog 3 #[.slice a0 len0 cap0] w fun e w' => e = .returned (.bool true) ∧ Below w.heap.size w w' := by
  have hn := Own.new w
  have hnR := RAt.new (w.alloc (.cells (cellsOf zero4 zero4 (.slice none 0 0)) 51))
  have hnR2 : RAt ((w.alloc (.cells (cellsOf zero4 zero4 (.slice none 0 0)) 51)).alloc (.cells (rcells zero4 (.slice none 0 0)) 29)) (w.heap.size + 1) (.slice none 0 0) zero4 [] := by simpa using hnR
  have hfx := fixed_walk
  go_enter Try.func3, Try.ntmps3
  go_wp2_with (go_at_call 9; (with_reducible refine (new_walk _).mono ?_); rintro e w1 ⟨rfl, rfl⟩)
  go_loopw [3, 4, 5] (fun v3 v4 v5 wr => ∃ (i A : Nat) (W : Value) (B : Nat) (V : Value) (st : St), v3 = .pointer (some ⟨A, 0, none⟩) ∧ v4 = .pointer (some ⟨B, 0, none⟩) ∧ v5 = .int .i64 i ∧ i ≤ len0 ∧ i ≤ 60 ∧ Own w.heap.size w wr A W st.n st.k st.l ∧ RAt wr B V st.k st.l ∧ w.heap.size ≤ B ∧ Hid (∀ b, V.ownBlock = some b → w.heap.size ≤ b) ∧ Off B V A W ∧ Sound i st) (fun _ _ i _ => 60 - (intOf i).toNat)
  case atStart => exact ⟨0, w.heap.size, .slice none 0 0, w.heap.size + 1, .slice none 0 0, ⟨zero4, zero4, []⟩, rfl, by simp, rfl, Nat.zero_le _, Nat.zero_le _, hn.alloc _, hnR2, by omega, Lib.hid (fun b e => by simp [Value.ownBlock] at e), ⟨by omega, by simp [Value.ownBlock], by simp [Value.ownBlock], fun b e => by simp [Value.ownBlock] at e⟩, Sound.zero 0⟩
  case round =>
    obtain ⟨i, A, W, B, V, st, rfl, rfl, rfl, hi, hi2, hD, hR, hRl, hRv0, hoff, hS⟩ := hrel
    have hRv := hRv0.out
    clear hn hnR hnR2
    by_cases hgo : i < len0 ∧ i < 60
    · obtain ⟨hlt, hlt2⟩ := hgo
      obtain ⟨x, rfl⟩ : ∃ x, a0 = some x := by
        rcases w0 with h | ⟨x, hx, _⟩
        · omega
        · exact ⟨x, hx⟩
      obtain ⟨o, ho⟩ : ∃ o, z0 i = o := ⟨_, rfl⟩
      obtain ⟨kd, fl, s, nn⟩ := o
      obtain ⟨c0, c1, c2, c3⟩ := w0.loads hlt (Nat.le_refl _) hD.bel
      rw [ho] at c0 c1 c2 c3
      simp only at c0 c1 c2 c3
      by_cases hk4 : kd = 4
      · subst hk4
        have hl := hS.len
        have hnl := hS.now_le
        have hl1 : st.l.length ≤ 1000000 := by omega
        have hl3 : st.l.length ≤ 1000 := by omega
        have ap := fun (w1 : World) (h1 : At w1 A W st.n st.k st.l) => append_walk h1 hl1 hnl 0 ⟨#[115, 112, 111, 105, 108, 116]⟩ (by decide)
        have hnl := Lib.hid hnl
        go_upto_region 15 with (first
          | (go_at_call 10; (with_reducible refine (copy_walk hD.at_ hl1).mono ?_); rintro e wA ⟨A2, W2, rfl, hc, hb, hA2, hW2⟩
             have oA := hD.copied hb hc hA2 hW2
             have fA := Off.fresh hD.at_ hA2 hW2
             have hDA := hD.below hb
             have hRA := hR.below hb
             clear hc hb hA2 hW2)
          | (go_at_call 11; (with_reducible refine (rcopy_walk hRA hl3).mono ?_); rintro e wB ⟨B2, V2, rfl, rB, hb, hB2, hV2⟩
             have fB := Off.fresh hDA.at_ hB2 hV2
             have fBA := Off.fresh oA.at_ hB2 hV2
             have hRl2 := Nat.le_trans hDA.base hB2
             have hRv2 := Lib.hid (fun b e => Nat.le_trans hDA.base (hV2 b e))
             have hDB := hDA.below hb
             have oB := oA.below hb
             clear hb hB2 hV2)
          | (go_at_call 12; (with_reducible refine (ap _ hDB.at_).mono ?_); rintro e wC ⟨rfl, hq⟩
             obtain ⟨W3, hDC, hK, hW3⟩ := hDB.puts (append_puts hDB.at_ hq)
             have oC := oB.off hK fA hDC
             have rC := rB.off hK fB
             have fA3 := fA.grow oB.at_ hW3
             have fB3 := fB.grow2 rB.lt (fun b e => (rB.row.lt b e).2) hW3
             clear hq hK hW3)
          | (go_at_call 13; (with_reducible refine (sync_walk hDC.at_).mono ?_); rintro e wD ⟨rfl, hq, hK⟩
             have hDD := hDC.nil hq hK
             have oD := oC.off hK fA3 hDD
             have rD := rC.off hK fB3
             clear hq hK))
        clear hD hR hoff hRl hRv hRv0 ap
        have hD := oD
        have hR := rD
        have hoff := fBA
        have hRl := hRl2
        have hRv := hRv2.out
        clear oD rD oC rC oB rB oA hDA hDB hDC hDD fA fB fA3 fB3 fBA hRA
        have hD := hD.drew
        have hR := hR.drew
        obtain ⟨s0, s1, s2, s3⟩ := w0.loads hlt (Nat.le_refl _) hD.bel
        rw [ho] at s0 s1 s2 s3
        simp only at s0 s1 s2 s3
        have hS2 := hS.next ⟨4, fl, s, nn⟩
        have hpl := fun (w1 : World) (h1 : At w1 A2 W2 st.n st.k st.l) => play_calls h1 hS (by omega) 4 fl s nn
        have hsm := fun (w1 : World) (h1 : RAt w1 B2 V2 st.k st.l) => same_calls h1 hS (by omega) 4 fl s nn
        obtain ⟨st2, hst2⟩ : ∃ q, next st ⟨4, fl, s, nn⟩ = q := ⟨_, rfl⟩
        rw [hst2] at hpl hsm hS2
        obtain ⟨ra, hra⟩ : ∃ r, ans st ⟨4, fl, s, nn⟩ = r := ⟨_, rfl⟩
        rw [hra] at hpl hsm
        clear hst2 hra
        have hU : unitsOf st2.l ≤ 100000000 := Nat.le_trans (unitsOf_le _ hS2.ok) (by have := hS2.len; omega)
        have hl2 : st2.l.length ≤ 1000000 := by have := hS2.len; omega
        have hS2h := Lib.hid hS2
        have w0h := Lib.hid w0
        have hoh := Lib.hid ho
        have hRvh := Lib.hid hRv
        clear hS2 hRv ho
        go_region_held3 (fun W => W.cell? (x.add (i * 4)) = some (.int .i64 4) ∧ W.cell? ⟨(x.add (i * 4)).block, (x.add (i * 4)).off + 1, none⟩ = some (.int .i64 fl) ∧ W.cell? ⟨(x.add (i * 4)).block, (x.add (i * 4)).off + 2, none⟩ = some (.string s) ∧ W.cell? ⟨(x.add (i * 4)).block, (x.add (i * 4)).off + 3, none⟩ = some (.int .i64 nn)) (first | exact ⟨s0, s1, s2, s3⟩ | exact ⟨t0, t1, t2, t3⟩ | exact ⟨u0, u1, u2, u3⟩ | exact ⟨x0, x1, x2, x3⟩) (first
          | (go_at_call 14; (with_reducible refine (hpl _ hD.at_).mono ?_); rintro e w5 ⟨rfl, hq⟩
             obtain ⟨W22, hD2, hK2, hW2⟩ := hD.puts hq
             have hR2 := hR.off hK2 hoff
             have hoff2 := hoff.grow2 hR.lt (fun b e => (hR.row.lt b e).2) hW2
             obtain ⟨t0, t1, t2, t3⟩ := w0h.out.loads hlt (Nat.le_refl _) hD2.bel
             rw [hoh.out] at t0 t1 t2 t3
             simp only at t0 t1 t2 t3
             clear hq hK2 hW2)
          | (go_at_call 15; (with_reducible refine (hsm _ hR2).mono ?_); rintro e w6 ⟨rfl, hq⟩
             obtain ⟨V3, hR3, hK3, hV3⟩ := hq
             have hD3 : Own w.heap.size w w6 A2 W22 st2.n st2.k st2.l := ⟨hD2.at_.off hK3 hoff2.symm, hK3.bel hD2.bel hD2.base hRl hRvh.out, Nat.le_trans hD2.base hK3.size, hD2.low, hD2.row⟩
             have hoff3 := (hoff2.symm.grow hD2.at_ hV3).symm
             have hRl3 : ∀ b, V3.ownBlock = some b → w.heap.size ≤ b := fun b e => by
               rcases hV3 with g | g
               · exact hRvh.out b (by rw [← g]; exact e)
               · exact Nat.le_trans hD2.base (g b e)
             have hRl3 := Lib.hid hRl3
             obtain ⟨u0, u1, u2, u3⟩ := w0h.out.loads hlt (Nat.le_refl _) hD3.bel
             rw [hoh.out] at u0 u1 u2 u3
             simp only at u0 u1 u2 u3
             clear hK3 hV3)
          | (go_at_call 16; (with_reducible refine (units_walk hD3.at_ hl2 (by omega)).mono ?_); rintro e w7 ⟨rfl, hb⟩
             have hD4 := hD3.below hb
             have hR4 := hR3.below hb
             obtain ⟨x0, x1, x2, x3⟩ := w0h.out.loads hlt (Nat.le_refl _) hD4.bel
             rw [hoh.out] at x0 x1 x2 x3
             simp only at x0 x1 x2 x3
             clear hb)
          | (go_at_call 17; (with_reducible refine (runits_walk hR4 hl2 (by omega)).mono ?_); rintro e w8 ⟨rfl, rfl⟩))
        go_wp2
        go_loopw [7] (fun v7 wx => ∃ f : Int, v7 = .int .i64 f ∧ -1 ≤ f ∧ f ≤ 5 ∧ Own w.heap.size w wx A2 W22 st2.n st2.k st2.l ∧ RAt wx B2 V3 st2.k st2.l) (fun i _ => (5 - intOf i).toNat)
        case atStart => exact ⟨-1, rfl, by omega, by omega, hD4, hR4⟩
        case round =>
          obtain ⟨f, rfl, hf0, hf5, hD5, hR5⟩ := hrel
          clear hD4 hR4 hD3 hR3 hD2 hR2 hD hR
          by_cases hf : f < 5
          · have hrr := fun (w1 : World) (h1 : RAt w1 B2 V3 st2.k st2.l) => rread_walk h1 hS2h.out (by omega) f
            go_wp2_with (first
              | (go_at_call 18; (with_reducible refine (read_walk hD5.at_ f).mono ?_); rintro e w7 ⟨rfl, rfl⟩)
              | (go_at_call 19; (with_reducible refine (hrr _ hR5).mono ?_); rintro e w9 ⟨rfl, hb⟩
                 have hD6 := hD5.below hb
                 have hR6 := hR5.below hb
                 clear hb)
              | (go_at_call 20; (with_reducible refine (kept_walk hD6.at_ f).mono ?_); rintro e w7 ⟨rfl, rfl⟩)
              | (go_at_call 21; (with_reducible refine (rkept_walk hR6 f).mono ?_); rintro e w7 ⟨rfl, rfl⟩))
            go_roundw
            case rel => exact ⟨f + 1, by go_num, by omega, by omega, hD6, hR6⟩
            case measure => simp [intOf]; omega
          · go_wp2
            go_roundw
            case rel => exact ⟨i + 1, A2, W22, B2, V3, st2, rfl, rfl, by go_num, by omega, by omega, hD5, hR5, hRl, hRl3, hoff3, hS2h.out⟩
            case measure => simp [intOf]; omega
      · have hk4b : (kd == 4) = false := by simpa using hk4
        go_upto_region 15 with fail
        have hD := hD.drew
        have hR := hR.drew
        obtain ⟨s0, s1, s2, s3⟩ := w0.loads hlt (Nat.le_refl _) hD.bel
        rw [ho] at s0 s1 s2 s3
        simp only at s0 s1 s2 s3
        have hS2 := hS.next ⟨kd, fl, s, nn⟩
        have hpl := fun (w1 : World) (h1 : At w1 A W st.n st.k st.l) => play_calls h1 hS (by omega) kd fl s nn
        have hsm := fun (w1 : World) (h1 : RAt w1 B V st.k st.l) => same_calls h1 hS (by omega) kd fl s nn
        obtain ⟨st2, hst2⟩ : ∃ q, next st ⟨kd, fl, s, nn⟩ = q := ⟨_, rfl⟩
        rw [hst2] at hpl hsm hS2
        obtain ⟨ra, hra⟩ : ∃ r, ans st ⟨kd, fl, s, nn⟩ = r := ⟨_, rfl⟩
        rw [hra] at hpl hsm
        clear hst2 hra
        have hU : unitsOf st2.l ≤ 100000000 := Nat.le_trans (unitsOf_le _ hS2.ok) (by have := hS2.len; omega)
        have hl2 : st2.l.length ≤ 1000000 := by have := hS2.len; omega
        have hS2h := Lib.hid hS2
        have w0h := Lib.hid w0
        have hoh := Lib.hid ho
        have hRvh := Lib.hid hRv
        clear hS2 hRv ho
        go_region_held3 (fun W => W.cell? (x.add (i * 4)) = some (.int .i64 kd) ∧ W.cell? ⟨(x.add (i * 4)).block, (x.add (i * 4)).off + 1, none⟩ = some (.int .i64 fl) ∧ W.cell? ⟨(x.add (i * 4)).block, (x.add (i * 4)).off + 2, none⟩ = some (.string s) ∧ W.cell? ⟨(x.add (i * 4)).block, (x.add (i * 4)).off + 3, none⟩ = some (.int .i64 nn)) (first | exact ⟨s0, s1, s2, s3⟩ | exact ⟨t0, t1, t2, t3⟩ | exact ⟨u0, u1, u2, u3⟩ | exact ⟨x0, x1, x2, x3⟩) (first
          | (go_at_call 14; (with_reducible refine (hpl _ hD.at_).mono ?_); rintro e w5 ⟨rfl, hq⟩
             obtain ⟨W2, hD2, hK2, hW2⟩ := hD.puts hq
             have hR2 := hR.off hK2 hoff
             have hoff2 := hoff.grow2 hR.lt (fun b e => (hR.row.lt b e).2) hW2
             obtain ⟨t0, t1, t2, t3⟩ := w0h.out.loads hlt (Nat.le_refl _) hD2.bel
             rw [hoh.out] at t0 t1 t2 t3
             simp only at t0 t1 t2 t3
             clear hq hK2 hW2)
          | (go_at_call 15; (with_reducible refine (hsm _ hR2).mono ?_); rintro e w6 ⟨rfl, hq⟩
             obtain ⟨V3, hR3, hK3, hV3⟩ := hq
             have hD3 : Own w.heap.size w w6 A W2 st2.n st2.k st2.l := ⟨hD2.at_.off hK3 hoff2.symm, hK3.bel hD2.bel hD2.base hRl hRvh.out, Nat.le_trans hD2.base hK3.size, hD2.low, hD2.row⟩
             have hoff3 := (hoff2.symm.grow hD2.at_ hV3).symm
             have hRl3 : ∀ b, V3.ownBlock = some b → w.heap.size ≤ b := fun b e => by
               rcases hV3 with g | g
               · exact hRvh.out b (by rw [← g]; exact e)
               · exact Nat.le_trans hD2.base (g b e)
             have hRl3 := Lib.hid hRl3
             obtain ⟨u0, u1, u2, u3⟩ := w0h.out.loads hlt (Nat.le_refl _) hD3.bel
             rw [hoh.out] at u0 u1 u2 u3
             simp only at u0 u1 u2 u3
             clear hK3 hV3)
          | (go_at_call 16; (with_reducible refine (units_walk hD3.at_ hl2 (by omega)).mono ?_); rintro e w7 ⟨rfl, hb⟩
             have hD4 := hD3.below hb
             have hR4 := hR3.below hb
             obtain ⟨x0, x1, x2, x3⟩ := w0h.out.loads hlt (Nat.le_refl _) hD4.bel
             rw [hoh.out] at x0 x1 x2 x3
             simp only at x0 x1 x2 x3
             clear hb)
          | (go_at_call 17; (with_reducible refine (runits_walk hR4 hl2 (by omega)).mono ?_); rintro e w8 ⟨rfl, rfl⟩))
        go_wp2
        go_loopw [7] (fun v7 wx => ∃ f : Int, v7 = .int .i64 f ∧ -1 ≤ f ∧ f ≤ 5 ∧ Own w.heap.size w wx A W2 st2.n st2.k st2.l ∧ RAt wx B V3 st2.k st2.l) (fun i _ => (5 - intOf i).toNat)
        case atStart => exact ⟨-1, rfl, by omega, by omega, hD4, hR4⟩
        case round =>
          obtain ⟨f, rfl, hf0, hf5, hD5, hR5⟩ := hrel
          clear hD4 hR4 hD3 hR3 hD2 hR2 hD hR
          by_cases hf : f < 5
          · have hrr := fun (w1 : World) (h1 : RAt w1 B V3 st2.k st2.l) => rread_walk h1 hS2h.out (by omega) f
            go_wp2_with (first
              | (go_at_call 18; (with_reducible refine (read_walk hD5.at_ f).mono ?_); rintro e w7 ⟨rfl, rfl⟩)
              | (go_at_call 19; (with_reducible refine (hrr _ hR5).mono ?_); rintro e w9 ⟨rfl, hb⟩
                 have hD6 := hD5.below hb
                 have hR6 := hR5.below hb
                 clear hb)
              | (go_at_call 20; (with_reducible refine (kept_walk hD6.at_ f).mono ?_); rintro e w7 ⟨rfl, rfl⟩)
              | (go_at_call 21; (with_reducible refine (rkept_walk hR6 f).mono ?_); rintro e w7 ⟨rfl, rfl⟩))
            go_roundw
            case rel => exact ⟨f + 1, by go_num, by omega, by omega, hD6, hR6⟩
            case measure => simp [intOf]; omega
          · go_wp2
            go_roundw
            case rel => exact ⟨i + 1, A, W2, B, V3, st2, rfl, rfl, by go_num, by omega, by omega, hD5, hR5, hRl, hRl3, hoff3, hS2h.out⟩
            case measure => simp [intOf]; omega
    · have hx : i < len0 ∧ ¬ i < 60 ∨ ¬ i < len0 := by
        by_cases h : i < len0
        · exact .inl ⟨h, fun g => hgo ⟨h, g⟩⟩
        · exact .inr h
      clear hgo
      rcases hx with ⟨hlt, hlt2⟩ | hlt
      all_goals
        go_wp2_with (first | (go_at_call 22; (with_reducible refine (hfx _).mono ?_); rintro e w10 ⟨rfl, hq⟩
                              have h10 := hD.below hq
                              clear hq))
        go_returns
        exact ⟨rfl, h10.bel⟩
end Go.Proofs.Ytkmgbgolpogmpaa.VF
