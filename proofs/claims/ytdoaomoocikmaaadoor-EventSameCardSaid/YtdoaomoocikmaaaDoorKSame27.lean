import Derived.Maps.AppendAt
import Derived.Deep.AppendLies
import Derived.Laws.OwnMore
import Derived.Test.YtdoaomoocikmaaaDoorKSame26
namespace Go.Proofs.YtdoaomoocikmaaaDoor.EW
open Go Go.RowKit Go.Shelf Go.Proofs.YtdoaomoocikmaaaDoor Go.Proofs.YtdoaomoocikmaaaDoor.EB
def cellsM (l : List (Int × Int)) : List Value := l.flatMap fun m => [.int .i64 m.1, .int .i64 m.2]
theorem cellsM_snoc (l : List (Int × Int)) (m : Int × Int) : cellsM (l ++ [m]) = cellsM l ++ [.int .i64 m.1, .int .i64 m.2] := by simp [cellsM]
theorem cellsM_len (l : List (Int × Int)) : (cellsM l).length = l.length * 2 := by
  induction l with
  | nil => rfl
  | cons m l ih => simp only [cellsM, List.flatMap_cons, List.length_append, List.length_cons, List.length_nil] at ih ⊢; omega
theorem cellsM_get : ∀ (l : List (Int × Int)) (j : Nat) (h : j < l.length), (cellsM l)[j * 2]? = some (.int .i64 (l[j]'h).1) ∧ (cellsM l)[j * 2 + 1]? = some (.int .i64 (l[j]'h).2)
  | [], j, h => by simp at h
  | m :: l, 0, _ => ⟨rfl, rfl⟩
  | m :: l, j + 1, h => by
    have ih := cellsM_get l j (by simpa using h)
    have e : cellsM (m :: l) = .int .i64 m.1 :: .int .i64 m.2 :: cellsM l := rfl
    rw [e, show (j + 1) * 2 = j * 2 + 1 + 1 by omega]
    simpa using ih
theorem MRow.own {w : World} {N n c : Nat} {o : Option Addr} {l : List (Int × Int)} (hl : l.length = n) (hn : n ≤ 1000000) (h : w.ownsRow N 55 2 (.slice o n c) n (cellsM l)) : MRow w o l ∧ n ≤ c := by
  subst hl
  rcases h.2 with ⟨e, hnil⟩ | ⟨g, cap, cur, e, hb, hg, r⟩
  · obtain ⟨rfl, hk, rfl⟩ := Value.slice.inj e
    rw [hk]
    refine ⟨⟨by omega, fun j hj => by omega⟩, Nat.le_refl _⟩
  · obtain ⟨rfl, hk, rfl⟩ := Value.slice.inj e
    refine ⟨⟨by omega, fun j hj => ?_⟩, ?_⟩
    · obtain ⟨c0, c1⟩ := cellsM_get l j hj
      have h0 := h.cellAt (j * 2) (by omega)
      have h1 := h.cellAt (j * 2 + 1) (by omega)
      refine ⟨⟨g, 0, none⟩, rfl, (Array.getElem?_eq_some_iff.1 hg).1, ?_, ?_⟩
      · rw [TW.add0, h0, c0]
      · rw [TW.add0, h1, c1]
    · exact r.1
theorem RD.grown {B : Nat} {s : ByteArray} {a bad : Int} {W w2 : World} {row : Option Nat} (h : RD B s a bad W) (hg : W.grownBy w2 row) (hr : ∀ k, row = some k → B + 3 ≤ k) : RD B s a bad w2 :=
  ⟨h.txt.kept hg (fun e => by have := hr _ e.symm; omega), h.at_.kept hg (fun e => by have := hr _ e.symm; omega), h.bad.kept hg (fun e => by have := hr _ e.symm; omega)⟩
theorem RD.alloc {B : Nat} {s : ByteArray} {a bad : Int} {W : World} (h : RD B s a bad W) (o : Obj) : RD B s a bad (W.alloc o) := ⟨h.txt.alloc o, h.at_.alloc o, h.bad.alloc o⟩
theorem own_else {B N n : Nat} {e : TypeId} {size : Nat} {v : Value} {xs : List Value} {w w2 : World} (h : w.ownsRow N e size v n xs) (hE : Else B w w2) (hN : B + 3 ≤ N) : w2.ownsRow N e size v n xs := by
  obtain ⟨h1, h2⟩ := h
  refine ⟨h1, ?_⟩
  rcases h2 with h2 | ⟨g, cap, cur, e0, hb, hg, r⟩
  · exact .inl h2
  · exact .inr ⟨g, cap, cur, e0, hb, (hE.block g (Array.getElem?_eq_some_iff.1 hg).1 (by omega) (by omega)).trans hg, r⟩
theorem own_lower {N M n : Nat} {e : TypeId} {size : Nat} {v : Value} {xs : List Value} {w : World} (h : w.ownsRow N e size v n xs) (hM : M ≤ N) : w.ownsRow M e size v n xs :=
  ⟨h.1, h.2.imp id fun ⟨g, cap, cur, e0, hb, r⟩ => ⟨g, cap, cur, e0, Nat.le_trans hM hb, r⟩⟩
theorem own_move2 {N n : Nat} {e : TypeId} {size : Nat} {v : Value} {xs : List Value} {w w2 : World} (h : w.ownsRow N e size v n xs) (hb : Below w.heap.size w w2) : w2.ownsRow N e size v n xs := by
  obtain ⟨h1, h2⟩ := h
  refine ⟨h1, ?_⟩
  rcases h2 with h2 | ⟨g, cap, cur, e0, hg0, hg, r⟩
  · exact .inl h2
  · exact .inr ⟨g, cap, cur, e0, hg0, (hb.block g (Array.getElem?_eq_some_iff.1 hg).1).trans hg, r⟩
theorem own_form {N n : Nat} {e : TypeId} {size : Nat} {v : Value} {xs : List Value} {w : World} (h : w.ownsRow N e size v n xs) : ∃ o c, v = .slice o n c := by
  rcases h.2 with ⟨rfl, rfl⟩ | ⟨g, cap, cur, rfl, _⟩
  · exact ⟨_, _, rfl⟩
  · exact ⟨_, _, rfl⟩
theorem infoM : (Tryd.prog.info? 55).map (fun i => (i.zero, i.size, i.bytes)) = some (some (.agg #[.int .i64 0, .int .i64 0]), 2, 16) := by kernel_rfl
theorem readM_split (s : ByteArray) : ∀ (j n : Nat) (a bad : Int), j ≤ n → readM s n a bad = ((readM s j a bad).1 ++ (readM s (n - j) (readM s j a bad).2.1 (readM s j a bad).2.2).1, (readM s (n - j) (readM s j a bad).2.1 (readM s j a bad).2.2).2)
  | 0, n, a, bad, _ => by simp [readM]
  | j + 1, 0, a, bad, h => by omega
  | j + 1, n + 1, a, bad, h => by
    rw [show n + 1 - (j + 1) = n - j by omega]
    simp only [readM]
    rw [readM_split s j n _ _ (by omega)]
    rfl
theorem readM_len (s : ByteArray) : ∀ (n : Nat) (a bad : Int), (readM s n a bad).1.length = n
  | 0, _, _ => rfl
  | n + 1, a, bad => by simp only [readM, List.length_cons, readM_len s n]
theorem readM_snoc {s : ByteArray} {j : Nat} {a bad x a2 e2 y a3 e3 : Int} (h1 : numS s (readM s j a bad).2.1 (readM s j a bad).2.2 = (x, a2, e2)) (h2 : numS s a2 e2 = (y, a3, e3)) : readM s (j + 1) a bad = ((readM s j a bad).1 ++ [(x, y)], (a3, e3)) := by
  rw [readM_split s j (j + 1) a bad (by omega), show j + 1 - j = 0 + 1 by omega]
  simp only [readM, h1, h2]
set_option maxHeartbeats 8000000 in
set_option maxRecDepth 100000 in
theorem cut_walk (s : ByteArray) (hs : s.size ≤ 900000) (a : Int) (w : World) :
    Calls Tryd.prog 24 #[.string s, .int .i64 a] w fun e w' => ∃ v, e = .returned (.tuple #[v, .int .i64 (cutE s a).2.1, .int .i64 (cutE s a).2.2]) ∧ w'.ownsRow w.heap.size 55 2 v (cutE s a).1.length (cellsM (cutE s a).1) ∧ Below w.heap.size w w' := by
  obtain ⟨i0, hiM, hzM⟩ := Option.map_eq_some_iff.1 infoM
  simp only [Prod.mk.injEq] at hzM
  obtain ⟨hz0, hz1, hz2⟩ := hzM
  obtain ⟨n0, a1, e1, h1⟩ : ∃ N A E, numS s a 0 = (N, A, E) := ⟨_, _, _, rfl⟩
  have hcut : cutE s a = if n0 > 32 then ([], 0, 2) else if (readM s n0.toNat a1 e1).2.2 ≠ 0 then ([], 0, (readM s n0.toNat a1 e1).2.2) else if sortedB (readM s n0.toNat a1 e1).1 = true then ((readM s n0.toNat a1 e1).1, (readM s n0.toNat a1 e1).2.1, 0) else ([], 0, 4) := by
    unfold cutE
    simp only [h1]
  rw [hcut]
  clear hcut
  replace h1 := Lib.hid h1
  obtain ⟨B, hB⟩ : ∃ B, w.heap.size = B := ⟨_, rfl⟩
  have hnil := World.ownsRow_nil
  by_cases h32 : n0 > 32
  · rw [if_pos h32]
    have h32b : (32 : Int) < n0 := h32
    replace hB := Lib.hid hB
    go_enter Tryd.func24, Tryd.ntmps24
    go_wp2_with (go_at_call 41; (with_reducible refine (reader_at _ _ _ B hB.out).mono ?_); rintro e w1 ⟨rfl, r1, b1⟩; refine Hid.out ?_)
    refine Lib.hid ?_
    go_wp2_with fail
    refine (num_at r1 hs h1.out).mono ?_
    rintro e w2 ⟨rfl, r2, l2⟩
    have y2 := l2.below b1 b1.size (by rw [hB.out]; exact Nat.le_refl _)
    go_wp2
    go_returns
    exact ⟨_, rfl, hnil _ _ _ _, y2⟩
  · rw [if_neg h32]
    have h32b : ¬ (32 : Int) < n0 := h32
    clear h32
    obtain ⟨N, hN⟩ : ∃ N : Nat, n0.toNat = N := ⟨_, rfl⟩
    rw [hN]
    have hN2 : N ≤ 32 := by omega
    obtain ⟨L, ra, re, hR⟩ : ∃ X A E, readM s N a1 e1 = (X, A, E) := ⟨_, _, _, rfl⟩
    rw [hR]
    simp only
    replace hR := Lib.hid hR
    by_cases hre : re = 0
    · subst hre
      rw [if_neg (by simp)]
      cases hq : sortedB L with
      | true =>
        rw [if_pos rfl]
        replace hB := Lib.hid hB
        go_enter Tryd.func24, Tryd.ntmps24
        go_wp2_with (go_at_call 41; (with_reducible refine (reader_at _ _ _ B hB.out).mono ?_); rintro e w1 ⟨rfl, r1, b1⟩; refine Hid.out ?_)
        refine Lib.hid ?_
        go_wp2_with fail
        refine (num_at r1 hs h1.out).mono ?_
        rintro e w2 ⟨rfl, r2, l2⟩
        have y2 := l2.below b1 b1.size (by rw [hB.out]; exact Nat.le_refl _)
        go_wp2
        go_loopw [11, 26] (fun v11 v26 wr => ∃ (j : Nat) (v : Value), v = v11 ∧ v26 = .int .i64 j ∧ j ≤ N ∧ RD B s (readM s j a1 e1).2.1 (readM s j a1 e1).2.2 wr ∧ wr.ownsRow (B + 3) 55 2 v j (cellsM (readM s j a1 e1).1) ∧ Below w.heap.size w wr) (fun _ i _ => N - (intOf i).toNat)
        case atStart => exact ⟨0, _, rfl, rfl, Nat.zero_le _, r2, hnil _ _ _ _, y2⟩
        case round =>
          obtain ⟨j, v, rfl, rfl, hj, hr, ho, hb⟩ := hrel
          clear r1 b1 l2 r2 y2 hnil
          by_cases hlt : j < N
          · have hlt2 : (j : Int) < n0 := by omega
            obtain ⟨x, a2, e2, h2⟩ : ∃ X A E, numS s (readM s j a1 e1).2.1 (readM s j a1 e1).2.2 = (X, A, E) := ⟨_, _, _, rfl⟩
            obtain ⟨y, a3, e3, h3⟩ : ∃ X A E, numS s a2 e2 = (X, A, E) := ⟨_, _, _, rfl⟩
            have hsn := readM_snoc h2 h3
            have hlen := readM_len s j a1 e1
            replace h2 := Lib.hid h2
            replace h3 := Lib.hid h3
            replace hsn := Lib.hid hsn
            replace hN := Lib.hid hN
            generalize readM s j a1 e1 = R at *
            obtain ⟨L0, ra0, re0⟩ := R
            simp only at hr ho h2 hlen hsn
            replace hlen := Lib.hid hlen
            go_wp2_with fail
            refine (num_at hr hs h2.out).mono ?_
            rintro e w3 ⟨rfl, r3, l3⟩
            have o3 := own_else ho l3 (Nat.le_refl _)
            have y3 := l3.below hb hb.size (by rw [hB.out]; exact Nat.le_refl _)
            clear hr l3 ho
            go_wp2_with fail
            refine (num_at r3 hs h3.out).mono ?_
            rintro e w4 ⟨rfl, r4, l4⟩
            have o4 := own_else o3 l4 (Nat.le_refl _)
            have y4 := l4.below y3 y3.size (by rw [hB.out]; exact Nat.le_refl _)
            clear r3 l4 o3
            have hlow := Lib.hid (fun k e => (o4.lt k e).1 : ∀ k, v.ownBlock = some k → B + 3 ≤ k)
            have hsz : B + 3 ≤ w4.heap.size := by have := r4.bad.lt; omega
            have oA := o4.alloc (.cells #[.int .i64 x, .int .i64 y] 55)
            go_wp2_with (at_builtin; refine wpList_append_own_at _ rfl (.tmp 28) (.tmp 34) 34 rfl (B + 3) 55 i0 (.agg #[.int .i64 0, .int .i64 0]) 2 16 Tryd.underlying34 hiM hz0 hz1 hz2 rfl (by decide) v j (cellsM L0) rfl oA ⟨w4.heap.size, 0, none⟩ 1 1 [.int .i64 x, .int .i64 y] rfl rfl (World.news_of_block (cs := #[.int .i64 x, .int .i64 y]) (t := 55) (fr := (0, 0)) (heap_alloc_new w4 _)) (by simp [Value.oneCell']) (by simp only [maxLen]; omega) (by omega) (by simp; omega) ?_; intro v2 w5 hown hgr _ _
                         have o5 : w5.ownsRow (B + 3) 55 2 v2 (j + 1) (cellsM (L0 ++ [(x, y)])) := by rw [cellsM_snoc]; exact hown
                         have r5 := (r4.alloc (.cells #[.int .i64 x, .int .i64 y] 55)).grown hgr hlow.out
                         have y5 : Below w.heap.size w w5 := (y4.alloc y4.size (.cells #[.int .i64 x, .int .i64 y] 55)).grown hgr (by have := y4.size; simp; omega) (fun k e => by have := hlow.out k e; have := hB.out; omega)
                         clear hown hgr r4 oA o4)
            go_roundw
            case rel => exact ⟨j + 1, v2, rfl, by go_num, by omega, by rw [hsn.out]; exact r5, by rw [hsn.out]; exact o5, y5⟩
            case measure => simp [intOf]; omega
          · have hjN : j = N := by omega
            subst hjN
            have hlt2 : ¬ (j : Int) < n0 := by omega
            have hlen := readM_len s j a1 e1
            rw [hR.out] at hr ho hlen
            simp only at hr ho hlen
            replace hN := Lib.hid hN
            go_wp2_with fail
            refine (end_walk hr).mono ?_
            rintro e w3 ⟨rfl, r3, l3⟩
            have o3 := own_else ho l3 (Nat.le_refl _)
            have y3 := l3.below hb hb.size (by rw [hB.out]; exact Nat.le_refl _)
            have y4 := o3
            clear hr l3 ho hb
            obtain ⟨vo, vc, rfl⟩ := own_form o3
            obtain ⟨hM, hvc⟩ := MRow.own hlen (by omega) o3
            have hw := sorted_walk hM hlen hvc
            rw [hq] at hw
            go_wp2_with fail
            refine hw.mono ?_
            rintro e w4 ⟨rfl, b4⟩
            have o5 : w4.ownsRow w.heap.size 55 2 (.slice vo j vc) L.length (cellsM L) := by rw [hlen]; exact own_lower (own_move2 o3 b4) (by have := hB.out; omega)
            have y5 := y3.trans (b4.mono y3.size)
            clear o3 y4
            go_wp2
            go_returns
            exact ⟨_, rfl, o5, y5⟩
      | false =>
        rw [if_neg (by decide)]
        replace hB := Lib.hid hB
        go_enter Tryd.func24, Tryd.ntmps24
        go_wp2_with (go_at_call 41; (with_reducible refine (reader_at _ _ _ B hB.out).mono ?_); rintro e w1 ⟨rfl, r1, b1⟩; refine Hid.out ?_)
        refine Lib.hid ?_
        go_wp2_with fail
        refine (num_at r1 hs h1.out).mono ?_
        rintro e w2 ⟨rfl, r2, l2⟩
        have y2 := l2.below b1 b1.size (by rw [hB.out]; exact Nat.le_refl _)
        go_wp2
        go_loopw [11, 26] (fun v11 v26 wr => ∃ (j : Nat) (v : Value), v = v11 ∧ v26 = .int .i64 j ∧ j ≤ N ∧ RD B s (readM s j a1 e1).2.1 (readM s j a1 e1).2.2 wr ∧ wr.ownsRow (B + 3) 55 2 v j (cellsM (readM s j a1 e1).1) ∧ Below w.heap.size w wr) (fun _ i _ => N - (intOf i).toNat)
        case atStart => exact ⟨0, _, rfl, rfl, Nat.zero_le _, r2, hnil _ _ _ _, y2⟩
        case round =>
          obtain ⟨j, v, rfl, rfl, hj, hr, ho, hb⟩ := hrel
          clear r1 b1 l2 r2 y2 hnil
          by_cases hlt : j < N
          · have hlt2 : (j : Int) < n0 := by omega
            obtain ⟨x, a2, e2, h2⟩ : ∃ X A E, numS s (readM s j a1 e1).2.1 (readM s j a1 e1).2.2 = (X, A, E) := ⟨_, _, _, rfl⟩
            obtain ⟨y, a3, e3, h3⟩ : ∃ X A E, numS s a2 e2 = (X, A, E) := ⟨_, _, _, rfl⟩
            have hsn := readM_snoc h2 h3
            have hlen := readM_len s j a1 e1
            replace h2 := Lib.hid h2
            replace h3 := Lib.hid h3
            replace hsn := Lib.hid hsn
            replace hN := Lib.hid hN
            generalize readM s j a1 e1 = R at *
            obtain ⟨L0, ra0, re0⟩ := R
            simp only at hr ho h2 hlen hsn
            replace hlen := Lib.hid hlen
            go_wp2_with fail
            refine (num_at hr hs h2.out).mono ?_
            rintro e w3 ⟨rfl, r3, l3⟩
            have o3 := own_else ho l3 (Nat.le_refl _)
            have y3 := l3.below hb hb.size (by rw [hB.out]; exact Nat.le_refl _)
            clear hr l3 ho
            go_wp2_with fail
            refine (num_at r3 hs h3.out).mono ?_
            rintro e w4 ⟨rfl, r4, l4⟩
            have o4 := own_else o3 l4 (Nat.le_refl _)
            have y4 := l4.below y3 y3.size (by rw [hB.out]; exact Nat.le_refl _)
            clear r3 l4 o3
            have hlow := Lib.hid (fun k e => (o4.lt k e).1 : ∀ k, v.ownBlock = some k → B + 3 ≤ k)
            have hsz : B + 3 ≤ w4.heap.size := by have := r4.bad.lt; omega
            have oA := o4.alloc (.cells #[.int .i64 x, .int .i64 y] 55)
            go_wp2_with (at_builtin; refine wpList_append_own_at _ rfl (.tmp 28) (.tmp 34) 34 rfl (B + 3) 55 i0 (.agg #[.int .i64 0, .int .i64 0]) 2 16 Tryd.underlying34 hiM hz0 hz1 hz2 rfl (by decide) v j (cellsM L0) rfl oA ⟨w4.heap.size, 0, none⟩ 1 1 [.int .i64 x, .int .i64 y] rfl rfl (World.news_of_block (cs := #[.int .i64 x, .int .i64 y]) (t := 55) (fr := (0, 0)) (heap_alloc_new w4 _)) (by simp [Value.oneCell']) (by simp only [maxLen]; omega) (by omega) (by simp; omega) ?_; intro v2 w5 hown hgr _ _
                         have o5 : w5.ownsRow (B + 3) 55 2 v2 (j + 1) (cellsM (L0 ++ [(x, y)])) := by rw [cellsM_snoc]; exact hown
                         have r5 := (r4.alloc (.cells #[.int .i64 x, .int .i64 y] 55)).grown hgr hlow.out
                         have y5 : Below w.heap.size w w5 := (y4.alloc y4.size (.cells #[.int .i64 x, .int .i64 y] 55)).grown hgr (by have := y4.size; simp; omega) (fun k e => by have := hlow.out k e; have := hB.out; omega)
                         clear hown hgr r4 oA o4)
            go_roundw
            case rel => exact ⟨j + 1, v2, rfl, by go_num, by omega, by rw [hsn.out]; exact r5, by rw [hsn.out]; exact o5, y5⟩
            case measure => simp [intOf]; omega
          · have hjN : j = N := by omega
            subst hjN
            have hlt2 : ¬ (j : Int) < n0 := by omega
            have hlen := readM_len s j a1 e1
            rw [hR.out] at hr ho hlen
            simp only at hr ho hlen
            replace hN := Lib.hid hN
            go_wp2_with fail
            refine (end_walk hr).mono ?_
            rintro e w3 ⟨rfl, r3, l3⟩
            have o3 := own_else ho l3 (Nat.le_refl _)
            have y3 := l3.below hb hb.size (by rw [hB.out]; exact Nat.le_refl _)
            have y4 := o3
            clear hr l3 ho hb
            obtain ⟨vo, vc, rfl⟩ := own_form o3
            obtain ⟨hM, hvc⟩ := MRow.own hlen (by omega) o3
            have hw := sorted_walk hM hlen hvc
            rw [hq] at hw
            go_wp2_with fail
            refine hw.mono ?_
            rintro e w4 ⟨rfl, b4⟩
            have y5 := y3.trans (b4.mono y3.size)
            go_wp2
            go_returns
            exact ⟨_, rfl, World.ownsRow_nil _ _ _ _, y5⟩
    · rw [if_pos hre]
      have k1 : (re == 0) = false := by simpa using hre
      have k2 : (re != 0) = true := by simpa using hre
      clear hre
      replace hB := Lib.hid hB
      go_enter Tryd.func24, Tryd.ntmps24
      go_wp2_with (go_at_call 41; (with_reducible refine (reader_at _ _ _ B hB.out).mono ?_); rintro e w1 ⟨rfl, r1, b1⟩; refine Hid.out ?_)
      refine Lib.hid ?_
      go_wp2_with fail
      refine (num_at r1 hs h1.out).mono ?_
      rintro e w2 ⟨rfl, r2, l2⟩
      have y2 := l2.below b1 b1.size (by rw [hB.out]; exact Nat.le_refl _)
      go_wp2
      go_loopw [11, 26] (fun v11 v26 wr => ∃ (j : Nat) (v : Value), v = v11 ∧ v26 = .int .i64 j ∧ j ≤ N ∧ RD B s (readM s j a1 e1).2.1 (readM s j a1 e1).2.2 wr ∧ wr.ownsRow (B + 3) 55 2 v j (cellsM (readM s j a1 e1).1) ∧ Below w.heap.size w wr) (fun _ i _ => N - (intOf i).toNat)
      case atStart => exact ⟨0, _, rfl, rfl, Nat.zero_le _, r2, hnil _ _ _ _, y2⟩
      case round =>
        obtain ⟨j, v, rfl, rfl, hj, hr, ho, hb⟩ := hrel
        clear r1 b1 l2 r2 y2 hnil
        by_cases hlt : j < N
        · have hlt2 : (j : Int) < n0 := by omega
          obtain ⟨x, a2, e2, h2⟩ : ∃ X A E, numS s (readM s j a1 e1).2.1 (readM s j a1 e1).2.2 = (X, A, E) := ⟨_, _, _, rfl⟩
          obtain ⟨y, a3, e3, h3⟩ : ∃ X A E, numS s a2 e2 = (X, A, E) := ⟨_, _, _, rfl⟩
          have hsn := readM_snoc h2 h3
          have hlen := readM_len s j a1 e1
          replace h2 := Lib.hid h2
          replace h3 := Lib.hid h3
          replace hsn := Lib.hid hsn
          replace hN := Lib.hid hN
          generalize readM s j a1 e1 = R at *
          obtain ⟨L0, ra0, re0⟩ := R
          simp only at hr ho h2 hlen hsn
          replace hlen := Lib.hid hlen
          go_wp2_with fail
          refine (num_at hr hs h2.out).mono ?_
          rintro e w3 ⟨rfl, r3, l3⟩
          have o3 := own_else ho l3 (Nat.le_refl _)
          have y3 := l3.below hb hb.size (by rw [hB.out]; exact Nat.le_refl _)
          clear hr l3 ho
          go_wp2_with fail
          refine (num_at r3 hs h3.out).mono ?_
          rintro e w4 ⟨rfl, r4, l4⟩
          have o4 := own_else o3 l4 (Nat.le_refl _)
          have y4 := l4.below y3 y3.size (by rw [hB.out]; exact Nat.le_refl _)
          clear r3 l4 o3
          have hlow := Lib.hid (fun k e => (o4.lt k e).1 : ∀ k, v.ownBlock = some k → B + 3 ≤ k)
          have hsz : B + 3 ≤ w4.heap.size := by have := r4.bad.lt; omega
          have oA := o4.alloc (.cells #[.int .i64 x, .int .i64 y] 55)
          go_wp2_with (at_builtin; refine wpList_append_own_at _ rfl (.tmp 28) (.tmp 34) 34 rfl (B + 3) 55 i0 (.agg #[.int .i64 0, .int .i64 0]) 2 16 Tryd.underlying34 hiM hz0 hz1 hz2 rfl (by decide) v j (cellsM L0) rfl oA ⟨w4.heap.size, 0, none⟩ 1 1 [.int .i64 x, .int .i64 y] rfl rfl (World.news_of_block (cs := #[.int .i64 x, .int .i64 y]) (t := 55) (fr := (0, 0)) (heap_alloc_new w4 _)) (by simp [Value.oneCell']) (by simp only [maxLen]; omega) (by omega) (by simp; omega) ?_; intro v2 w5 hown hgr _ _
                       have o5 : w5.ownsRow (B + 3) 55 2 v2 (j + 1) (cellsM (L0 ++ [(x, y)])) := by rw [cellsM_snoc]; exact hown
                       have r5 := (r4.alloc (.cells #[.int .i64 x, .int .i64 y] 55)).grown hgr hlow.out
                       have y5 : Below w.heap.size w w5 := (y4.alloc y4.size (.cells #[.int .i64 x, .int .i64 y] 55)).grown hgr (by have := y4.size; simp; omega) (fun k e => by have := hlow.out k e; have := hB.out; omega)
                       clear hown hgr r4 oA o4)
          go_roundw
          case rel => exact ⟨j + 1, v2, rfl, by go_num, by omega, by rw [hsn.out]; exact r5, by rw [hsn.out]; exact o5, y5⟩
          case measure => simp [intOf]; omega
        · have hjN : j = N := by omega
          subst hjN
          have hlt2 : ¬ (j : Int) < n0 := by omega
          have hlen := readM_len s j a1 e1
          rw [hR.out] at hr ho hlen
          simp only at hr ho hlen
          replace hN := Lib.hid hN
          go_wp2_with fail
          refine (end_walk hr).mono ?_
          rintro e w3 ⟨rfl, r3, l3⟩
          have o3 := own_else ho l3 (Nat.le_refl _)
          have y3 := l3.below hb hb.size (by rw [hB.out]; exact Nat.le_refl _)
          have y4 := o3
          clear hr l3 ho hb
          go_wp2
          go_returns
          exact ⟨_, rfl, World.ownsRow_nil _ _ _ _, y3⟩
end Go.Proofs.YtdoaomoocikmaaaDoor.EW
