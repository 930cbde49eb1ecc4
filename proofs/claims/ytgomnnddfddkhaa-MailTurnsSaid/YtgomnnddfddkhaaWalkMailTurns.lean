/-
  Chapter 08: the walk of the law MailTurns.
-/
import Derived.Test.YtgomnnddfddkhaaMailRows
import Derived.Test.YtgomnnddfddkhaaStrRow
import Derived.Deep.Cut
namespace Go.Proofs.Ytgomnnddfddkhaa.VF
open Go.RowKit Go.Conc Go.Proofs.Ytgomnnddfddkhaa Go.Proofs.Ytgomnnddfddkhaa.ML
attribute [local go_sem] max2_int min2_int max_two min_two

theorem new_8 (w : World) : Calls Try.prog 9 #[.int .i64 8] w fun e w' => e = .returned (.tuple #[.pointer (some ⟨w.heap.size + 1, 0, none⟩), .int .i64 0]) ∧ MAt w' (w.heap.size + 1) w.heap.size 8 [] ∧ Below w.heap.size w w' := new_walk 8 (by omega) (by omega) w
/-- The first ones of an argument's texts. -/
theorem strs_row {w : World} {a : Option Addr} {len cap n : Nat} {zs : List ByteArray} (h : SR.IsStrs w a len cap zs) (hn : n ≤ len) : (zs.take n).length = n ∧ SRow w a (zs.take n) := by
  rcases h with ⟨rfl, rfl, rfl, rfl⟩ | ⟨x, rfl, hl, _, hz, hc, _⟩
  · exact ⟨by simp; omega, fun j hj => by simp at hj⟩
  · have e : (zs.take n).length = n := by rw [List.length_take]; omega
    refine ⟨e, fun j hj => ⟨x, rfl, ?_, ?_⟩⟩
    · have h1 := hc j (by omega)
      rw [List.getElem_take]
      rw [h1, List.getD_eq_getElem?_getD, List.getElem?_eq_getElem (by omega)]
      rfl
    · have h1 := hc j (by omega)
      have e2 : (x.add j).block = x.block := by
        unfold Addr.add
        split <;> rfl
      unfold World.cell? at h1
      rw [e2] at h1
      rcases Nat.lt_or_ge x.block w.heap.size with h | h
      · exact h
      · rw [Array.getElem?_eq_none h] at h1
        cases h1
theorem SRow.at_ {w w1 : World} {N : Nat} {o : Option Addr} {A : List ByteArray} (h : SRow w o A) (hN : w.heap.size ≤ N) (hb : Below N w w1) {j : Nat} (hj : j < A.length) : ∃ x, o = some x ∧ w1.cell? (x.add j) = some (.string (A[j]'hj)) := by
  obtain ⟨x, hx, hc, _⟩ := h j hj
  exact ⟨x, hx, low_cell hN hb hc⟩
theorem SRow.later {w w1 : World} {N : Nat} {o : Option Addr} {A : List ByteArray} (h : SRow w o A) (hN : w.heap.size ≤ N) (hb : Below N w w1) : SRow w1 o A := fun j hj => by
  obtain ⟨x, hx, hc, hl⟩ := h j hj
  exact ⟨x, hx, low_cell hN hb hc, Nat.lt_of_lt_of_le hl hb.size⟩
theorem same_mixed {w : World} {N n k1 k2 : Nat} {o1 o2 : Option Addr} {l : List ByteArray} (hl : l.length = n) (h1 : w.ownsRow N 9 1 (.slice o1 n k1) n (l.map Value.string)) (h2 : SRow w o2 l) (hn : n ≤ 1000000) :
    Calls Try.prog 17 #[.slice o1 n k1, .slice o2 n k2] w fun e w' => e = .returned (.bool true) ∧ Below w.heap.size w w' := by
  subst hl
  exact same_walk (SRow.own h1) h2 hn
/-- Two boxes and two rows behind a turn. -/
theorem after_turn {N : Nat} {w0 w w2 : World} {A c cap B d cap2 n m : Nat} {l l2 l' l2' : List ByteArray} {v u : Value} {xs ys : List Value} (hx : MO N w0 w A c cap l) (hy : MO N w0 w B d cap2 l2) (hP : w.ownsRow N 9 1 v n xs) (hQ : w.ownsRow N 9 1 u m ys)
    (h1 : MAt w2 A c cap l') (h2 : MAt w2 B d cap2 l2') (hK : MK2 w w2 c d) : MO N w0 w2 A c cap l' ∧ MO N w0 w2 B d cap2 l2' ∧ w2.ownsRow N 9 1 v n xs ∧ w2.ownsRow N 9 1 u m ys := by
  have hbl := hK.bel hx.bel hx.base hx.lowc hy.lowc
  have hbs := Nat.le_trans hx.base hK.size
  have row : ∀ {v : Value} {n : Nat} {xs : List Value}, w.ownsRow N 9 1 v n xs → w2.ownsRow N 9 1 v n xs := by
    intro v n xs h
    refine ⟨h.1, ?_⟩
    have n1 := own_ne_chan h hx.at_
    have n2 := own_ne_chan h hy.at_
    rcases h.2 with e | ⟨g, cap, cur, rfl, hb, hg, r⟩
    · exact .inl e
    · refine .inr ⟨g, cap, cur, rfl, hb, ?_, r⟩
      rw [hK.block g (Array.getElem?_eq_some_iff.1 hg).1 (fun e => n1 (by rw [← e]; rfl)) (fun e => n2 (by rw [← e]; rfl))]
      exact hg
  exact ⟨⟨h1, hbl, hbs, hx.lowA, hx.lowc⟩, ⟨h2, hbl, hbs, hy.lowA, hy.lowc⟩, row hP, row hQ⟩
set_option maxHeartbeats 16000000 in
set_option maxRecDepth 100000 in
theorem MailTurns_walk (a0 : Option Addr) (len0 cap0 : Nat) (z0 : List ByteArray) (a1 : Option Addr) (len1 cap1 : Nat) (z1 : List ByteArray) (w : World) (w0 : SR.IsStrs w a0 len0 cap0 z0) (_y0 : len0 * 16 ≤ 140737488351232) (w1 : SR.IsStrs w a1 len1 cap1 z1) (_y1 : len1 * 16 ≤ 140737488351232) :
    Calls Try.prog 6 #[.slice a0 len0 cap0, .slice a1 len1 cap1] w fun e w' => e = .returned (.bool true) ∧ Below w.heap.size w w' := by
  have hfx := fixed_walk
  obtain ⟨i0, hi9, hz9⟩ := Option.map_eq_some_iff.1 info9
  simp only [Prod.mk.injEq] at hz9
  obtain ⟨hz0, hz1, hz2⟩ := hz9
  obtain ⟨na, hna⟩ : ∃ m : Nat, (if 8 < (len0 : Int) then 8 else (len0 : Int)) = (m : Int) := ⟨min 8 len0, by split <;> omega⟩
  obtain ⟨nb, hnb⟩ : ∃ m : Nat, (if 8 < (len1 : Int) then 8 else (len1 : Int)) = (m : Int) := ⟨min 8 len1, by split <;> omega⟩
  have ha8 : na ≤ 8 := by split at hna <;> omega
  have hb8 : nb ≤ 8 := by split at hnb <;> omega
  have hal : na ≤ len0 := by split at hna <;> omega
  have hbl : nb ≤ len1 := by split at hnb <;> omega
  have hcap0 : len0 ≤ cap0 := by rcases w0 with ⟨_, rfl, rfl, _⟩ | ⟨_, _, h, _⟩ <;> omega
  have hcap1 : len1 ≤ cap1 := by rcases w1 with ⟨_, rfl, rfl, _⟩ | ⟨_, _, h, _⟩ <;> omega
  obtain ⟨hAl, hAr⟩ := strs_row w0 hal
  obtain ⟨hBl, hBr⟩ := strs_row w1 hbl
  obtain ⟨AA, hAA⟩ : ∃ A, z0.take na = A := ⟨_, rfl⟩
  obtain ⟨BB, hBB⟩ : ∃ A, z1.take nb = A := ⟨_, rfl⟩
  rw [hAA] at hAl hAr
  rw [hBB] at hBl hBr
  clear hAA hBB
  have w0h := Lib.hid w0
  have w1h := Lib.hid w1
  clear w0 w1
  have hAl := Lib.hid hAl
  have hBl := Lib.hid hBl
  go_enter Try.func6, Try.ntmps6
  go_wp2_with (first
    | (go_at_call 9; (with_reducible refine (new_8 w).mono ?_); rintro e w2 ⟨rfl, hm, hb⟩
       have x0 := MO.new (N := w.heap.size) (w0 := w) hm hb (Nat.le_refl _) (Below.refl _ _)
       clear hm hb)
    | (go_at_call 9; (with_reducible refine (new_8 w2).mono ?_); rintro e w3 ⟨rfl, hm, hb⟩
       have y1 := MO.new (N := w.heap.size) (w0 := w) hm hb x0.base x0.bel
       have sp := Lib.hid (Sep.fresh (B := w2.heap.size + 1) (d := w2.heap.size) x0.at_ (by omega) (by omega))
       have x1 := x0.below hb
       clear hm hb x0))
  go_loopw [9] (fun v9 wr => ∃ i : Nat, v9 = .int .i64 i ∧ i ≤ na ∧ MO w.heap.size w wr (w.heap.size + 1) w.heap.size 8 (AA.take i) ∧ MO w.heap.size w wr (w2.heap.size + 1) w2.heap.size 8 []) (fun i _ => na - (intOf i).toNat)
  case atStart => exact ⟨0, rfl, Nat.zero_le _, by simpa using x1, y1⟩
  case round =>
    obtain ⟨i, rfl, hi, bx, by_⟩ := hrel
    clear x1 y1
    by_cases hlt : i < na
    · have hAl2 := hAl.out
      obtain ⟨xa, rfl, hc⟩ := SRow.at_ hAr (Nat.le_refl _) bx.bel (show i < AA.length by omega)
      have htk : AA.take (i + 1) = AA.take i ++ [AA[i]'(by omega)] := List.take_succ_eq_append_getElem (by omega)
      generalize AA[i]'(by omega) = s at *
      have e2 := Lib.hid (show putT 8 (AA.take i) s = AA.take (i + 1) by unfold putT; rw [if_pos (by rw [List.length_take]; omega), htk])
      clear htk hAl2
      go_wp2_with (first
        | (go_at_call 11; (with_reducible refine (put_walk bx.at_ s).mono ?_); rintro e w4 ⟨rfl, hm, hK⟩
           have bx4 := MO.eq (bx.own hm hK) e2.out
           have by4 := by_.other bx4 hK sp.out
           clear hm hK))
      go_roundw
      case rel => exact ⟨i + 1, by go_num, by omega, bx4, by4⟩
      case measure => simp [intOf]; omega
    · have hin : i = na := by omega
      subst hin
      have hAf : AA.take i = AA := List.take_of_length_le (by rw [hAl.out]; omega)
      rw [hAf] at bx
      clear hAf
      go_wp2
      go_loopw [10] (fun v10 wr => ∃ j : Nat, v10 = .int .i64 j ∧ j ≤ nb ∧ MO w.heap.size w wr (w.heap.size + 1) w.heap.size 8 AA ∧ MO w.heap.size w wr (w2.heap.size + 1) w2.heap.size 8 (BB.take j)) (fun i _ => nb - (intOf i).toNat)
      case atStart => exact ⟨0, rfl, Nat.zero_le _, bx, by simpa using by_⟩
      case round =>
        obtain ⟨j, rfl, hj, bx2, by2⟩ := hrel
        clear bx by_
        by_cases hlt2 : j < nb
        · have hBl2 := hBl.out
          obtain ⟨xb, rfl, hc⟩ := SRow.at_ hBr (Nat.le_refl _) bx2.bel (show j < BB.length by omega)
          have htk : BB.take (j + 1) = BB.take j ++ [BB[j]'(by omega)] := List.take_succ_eq_append_getElem (by omega)
          generalize BB[j]'(by omega) = s at *
          have e2 := Lib.hid (show putT 8 (BB.take j) s = BB.take (j + 1) by unfold putT; rw [if_pos (by rw [List.length_take]; omega), htk])
          clear htk hBl2
          go_wp2_with (first
            | (go_at_call 11; (with_reducible refine (put_walk by2.at_ s).mono ?_); rintro e w4 ⟨rfl, hm, hK⟩
               have by4 := MO.eq (by2.own hm hK) e2.out
               have bx4 := bx2.other by4 hK sp.out.symm
               clear hm hK))
          go_roundw
          case rel => exact ⟨j + 1, by go_num, by omega, bx4, by4⟩
          case measure => simp [intOf]; omega
        · have hjn : j = nb := by omega
          subst hjn
          have hBf : BB.take j = BB := List.take_of_length_le (by rw [hBl.out]; omega)
          rw [hBf] at by2
          clear hBf
          go_wp2
          rename World => wz
          have hlp := (World.ownsRow_lit (base := w.heap.size) (e := 9) (size := 1) wz #[] 0 bx2.base (by decide) rfl).alloc (.cells #[] 9)
          have bx3 := bx2.alloc (.cells #[] 9)
          have hlq := World.ownsRow_lit (base := w.heap.size) (e := 9) (size := 1) (wz.alloc (.cells #[] 9)) #[] 0 bx3.base (by decide) rfl
          have bx4 := bx3.alloc (.cells #[] 9)
          have by4 := (by2.alloc (.cells #[] 9)).alloc (.cells #[] 9)
          have hfar : Far (.slice (some ⟨wz.heap.size, 0, none⟩) 0 0) (.slice (some ⟨(wz.alloc (.cells #[] 9)).heap.size, 0, none⟩) 0 0) := fun b e1 e2 => by
            simp [Value.ownBlock] at e1 e2
            omega
          simp only [World.size_alloc] at hlq hfar
          go_loopw [11, 12, 13, 14, 15] (fun v11 v12 v13 v14 v15 wr => ∃ (t : Nat) (oP oQ : Option Addr) (kP kQ : Nat) (P Q X Y : List ByteArray) (f la : Int), v11 = .slice oP P.length kP ∧ v12 = .slice oQ Q.length kQ ∧ v13 = .int .i64 f ∧ v14 = .int .i64 la ∧ v15 = .int .i64 t ∧ t ≤ i + j ∧ P.length + Q.length = t ∧ Hid (P ++ X = AA) ∧ Hid (Q ++ Y = BB) ∧
            wr.ownsRow w.heap.size 9 1 (.slice oP P.length kP) P.length (P.map Value.string) ∧ wr.ownsRow w.heap.size 9 1 (.slice oQ Q.length kQ) Q.length (Q.map Value.string) ∧ Hid (Far (.slice oP P.length kP) (.slice oQ Q.length kQ)) ∧ MO w.heap.size w wr (w.heap.size + 1) w.heap.size 8 X ∧ MO w.heap.size w wr (w2.heap.size + 1) w2.heap.size 8 Y ∧ (f = 0 ∧ ¬ la = 0 ∨ f = 1 ∧ ¬ la = 1)) (fun _ _ _ _ i _ => 16 - (intOf i).toNat)
          case atStart => exact ⟨0, _, _, _, _, [], [], AA, BB, 0, -1, rfl, rfl, rfl, rfl, rfl, Nat.zero_le _, rfl, Lib.hid rfl, Lib.hid rfl, hlp, hlq, Lib.hid hfar, bx4, by4, .inl ⟨rfl, by decide⟩⟩
          case round =>
            obtain ⟨t, oP, oQ, kP, kQ, P, Q, X, Y, f, la, rfl, rfl, rfl, rfl, rfl, ht, hsum, hA, hB, hP, hQ, hF, bx, by_, hfl⟩ := hrel
            clear bx2 by2 bx3 bx4 by4 hlp hlq hfar
            have lA : P.length + X.length = i := by rw [← List.length_append, hA.out, hAl.out]
            have lB : Q.length + Y.length = j := by rw [← List.length_append, hB.out, hBl.out]
            have bxa := bx.alloc (.cells #[.pointer (some ⟨w.heap.size + 1, 0, none⟩), .pointer (some ⟨w2.heap.size + 1, 0, none⟩)] 23)
            have bya := by_.alloc (.cells #[.pointer (some ⟨w.heap.size + 1, 0, none⟩), .pointer (some ⟨w2.heap.size + 1, 0, none⟩)] 23)
            have hnn := heap_alloc_new wr (.cells #[.pointer (some ⟨w.heap.size + 1, 0, none⟩), .pointer (some ⟨w2.heap.size + 1, 0, none⟩)] 23)
            have k0 : (wr.alloc (.cells #[.pointer (some ⟨w.heap.size + 1, 0, none⟩), .pointer (some ⟨w2.heap.size + 1, 0, none⟩)] 23)).cell? ⟨wr.heap.size, 0, none⟩ = some (.pointer (some ⟨w.heap.size + 1, 0, none⟩)) := cell_in hnn 0
            have k1 : (wr.alloc (.cells #[.pointer (some ⟨w.heap.size + 1, 0, none⟩), .pointer (some ⟨w2.heap.size + 1, 0, none⟩)] 23)).cell? ⟨wr.heap.size, 1, none⟩ = some (.pointer (some ⟨w2.heap.size + 1, 0, none⟩)) := cell_in hnn 1
            have htc := fun f => turn_calls k0 k1 bxa.at_ bya.at_ sp.out f
            have hPa := hP.alloc (.cells #[.pointer (some ⟨w.heap.size + 1, 0, none⟩), .pointer (some ⟨w2.heap.size + 1, 0, none⟩)] 23)
            have hQa := hQ.alloc (.cells #[.pointer (some ⟨w.heap.size + 1, 0, none⟩), .pointer (some ⟨w2.heap.size + 1, 0, none⟩)] 23)
            clear hnn k0 k1 hP hQ
            by_cases hlt : t < i + j
            · have hgo : (t : Int) < (i : Int) + j := by omega
              have bP : P.length ≤ 8 := by omega
              have bQ : Q.length ≤ 8 := by omega
              replace hsum := Lib.hid hsum
              replace lA := Lib.hid lA
              replace lB := Lib.hid lB
              rcases hfl with ⟨rfl, hla⟩ | ⟨rfl, hla⟩
              · cases X with
                | nil =>
                  cases Y with
                  | nil =>
                    exfalso
                    have h1 := lA.out
                    have h2 := lB.out
                    have h3 := hsum.out
                    simp at h1 h2
                    omega
                  | cons y0 Y =>
                    have r1 : turnK [] (y0 :: Y) 0 = 1 := rfl
                    have r2 : turnS [] (y0 :: Y) 0 = y0 := rfl
                    have r3 : turnB [] (y0 :: Y) 0 = true := rfl
                    have p2 : (0 : Int) < (Y.length : Int) + 1 := by omega
                    go_wp2_with (first
                      | (go_at_call 24; (with_reducible refine (len_walk bx.at_).mono ?_); rintro e w7 ⟨rfl, rfl⟩)
                      | (go_at_call 24; (with_reducible refine (len_walk by_.at_).mono ?_); rintro e w7 ⟨rfl, rfl⟩)
                      | (go_at_call 22; (with_reducible refine (htc 0).mono ?_); rintro e w3 ⟨rfl, hm1, hm2, hK⟩
                         obtain ⟨bx3, by3, hP3, hQ3⟩ := after_turn bxa bya hPa hQa hm1 hm2 hK
                         have bx4 := (MO.eq (m := []) bx3 rfl).alloc (.cells #[.string y0] 9)
                         have by4 := (MO.eq (m := Y) by3 rfl).alloc (.cells #[.string y0] 9)
                         have hP4 := hP3.alloc (.cells #[.string y0] 9)
                         have hQ4 := hQ3.alloc (.cells #[.string y0] 9)
                         have hs3 := bx4.base
                         clear hm1 hm2 hK bx3 by3 hP3 hQ3)
                      | (at_builtin; refine wpList_append_own_at _ rfl (.tmp 131) (.tmp 133) 36 rfl w.heap.size 9 i0 (.string ⟨#[]⟩) 1 16 Try.underlying36 hi9 hz0 hz1 hz2 rfl (by decide) (.slice oQ Q.length kQ) Q.length (Q.map Value.string) rfl hQ4 ⟨w3.heap.size, 0, none⟩ 1 1 [.string y0] rfl rfl (World.news_of_block (cs := #[.string y0]) (t := 9) (fr := (0, 0)) (heap_alloc_new w3 _)) (by simp [Value.oneCell']) (by simp only [maxLen]; omega) (by omega) hs3 ?_; intro v w5 hown hgr _ hat
                         have bx5 := bx4.grown hQ4 hgr
                         have by5 := by4.grown hQ4 hgr
                         have hP5 := Far.kept hF.out hP4 hgr
                         have hF5 := Lib.hid (Far.grow hF.out hP4 hat)
                         obtain ⟨vo, vc, rfl⟩ := own_form hown
                         have hown5 : w5.ownsRow w.heap.size 9 1 (.slice vo (Q.length + 1) vc) (Q.length + 1) ((Q ++ [y0]).map Value.string) := by rw [List.map_append]; exact hown
                         clear hgr hown hat))
                    go_roundw
                    case rel => exact ⟨t + 1, oP, vo, kP, vc, P, Q ++ [y0], [], Y, 0, 1, rfl, by simp, by go_num, by go_num, by go_num, by omega, by have h3 := hsum.out; simp; omega, hA, Lib.hid (by rw [← hB.out]; simp), hP5, by simpa using hown5, by simpa using hF5, bx5, by5, by omega⟩
                    case measure => simp [intOf]; omega
                | cons x0 X =>
                  cases Y with
                  | nil =>
                    have r1 : turnK (x0 :: X) [] 0 = 0 := rfl
                    have r2 : turnS (x0 :: X) [] 0 = x0 := rfl
                    have r3 : turnB (x0 :: X) [] 0 = true := rfl
                    have p1 : (0 : Int) < (X.length : Int) + 1 := by omega
                    go_wp2_with (first
                      | (go_at_call 24; (with_reducible refine (len_walk bx.at_).mono ?_); rintro e w7 ⟨rfl, rfl⟩)
                      | (go_at_call 24; (with_reducible refine (len_walk by_.at_).mono ?_); rintro e w7 ⟨rfl, rfl⟩)
                      | (go_at_call 22; (with_reducible refine (htc 0).mono ?_); rintro e w3 ⟨rfl, hm1, hm2, hK⟩
                         obtain ⟨bx3, by3, hP3, hQ3⟩ := after_turn bxa bya hPa hQa hm1 hm2 hK
                         have bx4 := (MO.eq (m := X) bx3 rfl).alloc (.cells #[.string x0] 9)
                         have by4 := (MO.eq (m := []) by3 rfl).alloc (.cells #[.string x0] 9)
                         have hP4 := hP3.alloc (.cells #[.string x0] 9)
                         have hQ4 := hQ3.alloc (.cells #[.string x0] 9)
                         have hs3 := bx4.base
                         clear hm1 hm2 hK bx3 by3 hP3 hQ3)
                      | (at_builtin; refine wpList_append_own_at _ rfl (.tmp 127) (.tmp 129) 36 rfl w.heap.size 9 i0 (.string ⟨#[]⟩) 1 16 Try.underlying36 hi9 hz0 hz1 hz2 rfl (by decide) (.slice oP P.length kP) P.length (P.map Value.string) rfl hP4 ⟨w3.heap.size, 0, none⟩ 1 1 [.string x0] rfl rfl (World.news_of_block (cs := #[.string x0]) (t := 9) (fr := (0, 0)) (heap_alloc_new w3 _)) (by simp [Value.oneCell']) (by simp only [maxLen]; omega) (by omega) hs3 ?_; intro v w5 hown hgr _ hat
                         have bx5 := bx4.grown hP4 hgr
                         have by5 := by4.grown hP4 hgr
                         have hQ5 := Far.kept hF.out.symm hQ4 hgr
                         have hF5 := Lib.hid (Far.grow hF.out.symm hQ4 hat).symm
                         obtain ⟨vo, vc, rfl⟩ := own_form hown
                         have hown5 : w5.ownsRow w.heap.size 9 1 (.slice vo (P.length + 1) vc) (P.length + 1) ((P ++ [x0]).map Value.string) := by rw [List.map_append]; exact hown
                         clear hgr hown hat))
                    go_roundw
                    case rel => exact ⟨t + 1, vo, oQ, vc, kQ, P ++ [x0], Q, X, [], 1, 0, by simp, rfl, by go_num, by go_num, by go_num, by omega, by have h3 := hsum.out; simp; omega, Lib.hid (by rw [← hA.out]; simp), hB, by simpa using hown5, hQ5, by simpa using hF5, bx5, by5, by omega⟩
                    case measure => simp [intOf]; omega
                  | cons y0 Y =>
                    have r1 : turnK (x0 :: X) (y0 :: Y) 0 = 0 := rfl
                    have r2 : turnS (x0 :: X) (y0 :: Y) 0 = x0 := rfl
                    have r3 : turnB (x0 :: X) (y0 :: Y) 0 = true := rfl
                    have r4 : (0 == la) = false := by simp; omega
                    have p1 : (0 : Int) < (X.length : Int) + 1 := by omega
                    have p2 : (0 : Int) < (Y.length : Int) + 1 := by omega
                    go_wp2_with (first
                      | (go_at_call 24; (with_reducible refine (len_walk bx.at_).mono ?_); rintro e w7 ⟨rfl, rfl⟩)
                      | (go_at_call 24; (with_reducible refine (len_walk by_.at_).mono ?_); rintro e w7 ⟨rfl, rfl⟩)
                      | (go_at_call 22; (with_reducible refine (htc 0).mono ?_); rintro e w3 ⟨rfl, hm1, hm2, hK⟩
                         obtain ⟨bx3, by3, hP3, hQ3⟩ := after_turn bxa bya hPa hQa hm1 hm2 hK
                         have bx4 := (MO.eq (m := X) bx3 rfl).alloc (.cells #[.string x0] 9)
                         have by4 := (MO.eq (m := (y0 :: Y)) by3 rfl).alloc (.cells #[.string x0] 9)
                         have hP4 := hP3.alloc (.cells #[.string x0] 9)
                         have hQ4 := hQ3.alloc (.cells #[.string x0] 9)
                         have hs3 := bx4.base
                         clear hm1 hm2 hK bx3 by3 hP3 hQ3)
                      | (at_builtin; refine wpList_append_own_at _ rfl (.tmp 127) (.tmp 129) 36 rfl w.heap.size 9 i0 (.string ⟨#[]⟩) 1 16 Try.underlying36 hi9 hz0 hz1 hz2 rfl (by decide) (.slice oP P.length kP) P.length (P.map Value.string) rfl hP4 ⟨w3.heap.size, 0, none⟩ 1 1 [.string x0] rfl rfl (World.news_of_block (cs := #[.string x0]) (t := 9) (fr := (0, 0)) (heap_alloc_new w3 _)) (by simp [Value.oneCell']) (by simp only [maxLen]; omega) (by omega) hs3 ?_; intro v w5 hown hgr _ hat
                         have bx5 := bx4.grown hP4 hgr
                         have by5 := by4.grown hP4 hgr
                         have hQ5 := Far.kept hF.out.symm hQ4 hgr
                         have hF5 := Lib.hid (Far.grow hF.out.symm hQ4 hat).symm
                         obtain ⟨vo, vc, rfl⟩ := own_form hown
                         have hown5 : w5.ownsRow w.heap.size 9 1 (.slice vo (P.length + 1) vc) (P.length + 1) ((P ++ [x0]).map Value.string) := by rw [List.map_append]; exact hown
                         clear hgr hown hat))
                    go_roundw
                    case rel => exact ⟨t + 1, vo, oQ, vc, kQ, P ++ [x0], Q, X, (y0 :: Y), 1, 0, by simp, rfl, by go_num, by go_num, by go_num, by omega, by have h3 := hsum.out; simp; omega, Lib.hid (by rw [← hA.out]; simp), hB, by simpa using hown5, hQ5, by simpa using hF5, bx5, by5, by omega⟩
                    case measure => simp [intOf]; omega
              · cases X with
                | nil =>
                  cases Y with
                  | nil =>
                    exfalso
                    have h1 := lA.out
                    have h2 := lB.out
                    have h3 := hsum.out
                    simp at h1 h2
                    omega
                  | cons y0 Y =>
                    have r1 : turnK [] (y0 :: Y) 1 = 1 := rfl
                    have r2 : turnS [] (y0 :: Y) 1 = y0 := rfl
                    have r3 : turnB [] (y0 :: Y) 1 = true := rfl
                    have p2 : (0 : Int) < (Y.length : Int) + 1 := by omega
                    go_wp2_with (first
                      | (go_at_call 24; (with_reducible refine (len_walk bx.at_).mono ?_); rintro e w7 ⟨rfl, rfl⟩)
                      | (go_at_call 24; (with_reducible refine (len_walk by_.at_).mono ?_); rintro e w7 ⟨rfl, rfl⟩)
                      | (go_at_call 22; (with_reducible refine (htc 1).mono ?_); rintro e w3 ⟨rfl, hm1, hm2, hK⟩
                         obtain ⟨bx3, by3, hP3, hQ3⟩ := after_turn bxa bya hPa hQa hm1 hm2 hK
                         have bx4 := (MO.eq (m := []) bx3 rfl).alloc (.cells #[.string y0] 9)
                         have by4 := (MO.eq (m := Y) by3 rfl).alloc (.cells #[.string y0] 9)
                         have hP4 := hP3.alloc (.cells #[.string y0] 9)
                         have hQ4 := hQ3.alloc (.cells #[.string y0] 9)
                         have hs3 := bx4.base
                         clear hm1 hm2 hK bx3 by3 hP3 hQ3)
                      | (at_builtin; refine wpList_append_own_at _ rfl (.tmp 131) (.tmp 133) 36 rfl w.heap.size 9 i0 (.string ⟨#[]⟩) 1 16 Try.underlying36 hi9 hz0 hz1 hz2 rfl (by decide) (.slice oQ Q.length kQ) Q.length (Q.map Value.string) rfl hQ4 ⟨w3.heap.size, 0, none⟩ 1 1 [.string y0] rfl rfl (World.news_of_block (cs := #[.string y0]) (t := 9) (fr := (0, 0)) (heap_alloc_new w3 _)) (by simp [Value.oneCell']) (by simp only [maxLen]; omega) (by omega) hs3 ?_; intro v w5 hown hgr _ hat
                         have bx5 := bx4.grown hQ4 hgr
                         have by5 := by4.grown hQ4 hgr
                         have hP5 := Far.kept hF.out hP4 hgr
                         have hF5 := Lib.hid (Far.grow hF.out hP4 hat)
                         obtain ⟨vo, vc, rfl⟩ := own_form hown
                         have hown5 : w5.ownsRow w.heap.size 9 1 (.slice vo (Q.length + 1) vc) (Q.length + 1) ((Q ++ [y0]).map Value.string) := by rw [List.map_append]; exact hown
                         clear hgr hown hat))
                    go_roundw
                    case rel => exact ⟨t + 1, oP, vo, kP, vc, P, Q ++ [y0], [], Y, 0, 1, rfl, by simp, by go_num, by go_num, by go_num, by omega, by have h3 := hsum.out; simp; omega, hA, Lib.hid (by rw [← hB.out]; simp), hP5, by simpa using hown5, by simpa using hF5, bx5, by5, by omega⟩
                    case measure => simp [intOf]; omega
                | cons x0 X =>
                  cases Y with
                  | nil =>
                    have r1 : turnK (x0 :: X) [] 1 = 0 := rfl
                    have r2 : turnS (x0 :: X) [] 1 = x0 := rfl
                    have r3 : turnB (x0 :: X) [] 1 = true := rfl
                    have p1 : (0 : Int) < (X.length : Int) + 1 := by omega
                    go_wp2_with (first
                      | (go_at_call 24; (with_reducible refine (len_walk bx.at_).mono ?_); rintro e w7 ⟨rfl, rfl⟩)
                      | (go_at_call 24; (with_reducible refine (len_walk by_.at_).mono ?_); rintro e w7 ⟨rfl, rfl⟩)
                      | (go_at_call 22; (with_reducible refine (htc 1).mono ?_); rintro e w3 ⟨rfl, hm1, hm2, hK⟩
                         obtain ⟨bx3, by3, hP3, hQ3⟩ := after_turn bxa bya hPa hQa hm1 hm2 hK
                         have bx4 := (MO.eq (m := X) bx3 rfl).alloc (.cells #[.string x0] 9)
                         have by4 := (MO.eq (m := []) by3 rfl).alloc (.cells #[.string x0] 9)
                         have hP4 := hP3.alloc (.cells #[.string x0] 9)
                         have hQ4 := hQ3.alloc (.cells #[.string x0] 9)
                         have hs3 := bx4.base
                         clear hm1 hm2 hK bx3 by3 hP3 hQ3)
                      | (at_builtin; refine wpList_append_own_at _ rfl (.tmp 127) (.tmp 129) 36 rfl w.heap.size 9 i0 (.string ⟨#[]⟩) 1 16 Try.underlying36 hi9 hz0 hz1 hz2 rfl (by decide) (.slice oP P.length kP) P.length (P.map Value.string) rfl hP4 ⟨w3.heap.size, 0, none⟩ 1 1 [.string x0] rfl rfl (World.news_of_block (cs := #[.string x0]) (t := 9) (fr := (0, 0)) (heap_alloc_new w3 _)) (by simp [Value.oneCell']) (by simp only [maxLen]; omega) (by omega) hs3 ?_; intro v w5 hown hgr _ hat
                         have bx5 := bx4.grown hP4 hgr
                         have by5 := by4.grown hP4 hgr
                         have hQ5 := Far.kept hF.out.symm hQ4 hgr
                         have hF5 := Lib.hid (Far.grow hF.out.symm hQ4 hat).symm
                         obtain ⟨vo, vc, rfl⟩ := own_form hown
                         have hown5 : w5.ownsRow w.heap.size 9 1 (.slice vo (P.length + 1) vc) (P.length + 1) ((P ++ [x0]).map Value.string) := by rw [List.map_append]; exact hown
                         clear hgr hown hat))
                    go_roundw
                    case rel => exact ⟨t + 1, vo, oQ, vc, kQ, P ++ [x0], Q, X, [], 1, 0, by simp, rfl, by go_num, by go_num, by go_num, by omega, by have h3 := hsum.out; simp; omega, Lib.hid (by rw [← hA.out]; simp), hB, by simpa using hown5, hQ5, by simpa using hF5, bx5, by5, by omega⟩
                    case measure => simp [intOf]; omega
                  | cons y0 Y =>
                    have r1 : turnK (x0 :: X) (y0 :: Y) 1 = 1 := rfl
                    have r2 : turnS (x0 :: X) (y0 :: Y) 1 = y0 := rfl
                    have r3 : turnB (x0 :: X) (y0 :: Y) 1 = true := rfl
                    have r4 : (1 == la) = false := by simp; omega
                    have p1 : (0 : Int) < (X.length : Int) + 1 := by omega
                    have p2 : (0 : Int) < (Y.length : Int) + 1 := by omega
                    go_wp2_with (first
                      | (go_at_call 24; (with_reducible refine (len_walk bx.at_).mono ?_); rintro e w7 ⟨rfl, rfl⟩)
                      | (go_at_call 24; (with_reducible refine (len_walk by_.at_).mono ?_); rintro e w7 ⟨rfl, rfl⟩)
                      | (go_at_call 22; (with_reducible refine (htc 1).mono ?_); rintro e w3 ⟨rfl, hm1, hm2, hK⟩
                         obtain ⟨bx3, by3, hP3, hQ3⟩ := after_turn bxa bya hPa hQa hm1 hm2 hK
                         have bx4 := (MO.eq (m := (x0 :: X)) bx3 rfl).alloc (.cells #[.string y0] 9)
                         have by4 := (MO.eq (m := Y) by3 rfl).alloc (.cells #[.string y0] 9)
                         have hP4 := hP3.alloc (.cells #[.string y0] 9)
                         have hQ4 := hQ3.alloc (.cells #[.string y0] 9)
                         have hs3 := bx4.base
                         clear hm1 hm2 hK bx3 by3 hP3 hQ3)
                      | (at_builtin; refine wpList_append_own_at _ rfl (.tmp 131) (.tmp 133) 36 rfl w.heap.size 9 i0 (.string ⟨#[]⟩) 1 16 Try.underlying36 hi9 hz0 hz1 hz2 rfl (by decide) (.slice oQ Q.length kQ) Q.length (Q.map Value.string) rfl hQ4 ⟨w3.heap.size, 0, none⟩ 1 1 [.string y0] rfl rfl (World.news_of_block (cs := #[.string y0]) (t := 9) (fr := (0, 0)) (heap_alloc_new w3 _)) (by simp [Value.oneCell']) (by simp only [maxLen]; omega) (by omega) hs3 ?_; intro v w5 hown hgr _ hat
                         have bx5 := bx4.grown hQ4 hgr
                         have by5 := by4.grown hQ4 hgr
                         have hP5 := Far.kept hF.out hP4 hgr
                         have hF5 := Lib.hid (Far.grow hF.out hP4 hat)
                         obtain ⟨vo, vc, rfl⟩ := own_form hown
                         have hown5 : w5.ownsRow w.heap.size 9 1 (.slice vo (Q.length + 1) vc) (Q.length + 1) ((Q ++ [y0]).map Value.string) := by rw [List.map_append]; exact hown
                         clear hgr hown hat))
                    go_roundw
                    case rel => exact ⟨t + 1, oP, vo, kP, vc, P, Q ++ [y0], (x0 :: X), Y, 0, 1, rfl, by simp, by go_num, by go_num, by go_num, by omega, by have h3 := hsum.out; simp; omega, hA, Lib.hid (by rw [← hB.out]; simp), hP5, by simpa using hown5, by simpa using hF5, bx5, by5, by omega⟩
                    case measure => simp [intOf]; omega
            · have hX : X = [] := List.eq_nil_of_length_eq_zero (by omega)
              have hY : Y = [] := List.eq_nil_of_length_eq_zero (by omega)
              subst hX
              subst hY
              have hPn : P.length = i := by simpa using lA
              have hQn : Q.length = j := by simpa using lB
              have eA : P = AA := by simpa using hA.out
              have eB : Q = BB := by simpa using hB.out
              subst eA
              subst eB
              have hgo : ¬ (t : Int) < (i : Int) + j := by omega
              have q1 : turnK [] [] f = 0 := by unfold turnK who; (repeat' split) <;> simp_all [non]
              have q2 : turnS [] [] f = ⟨#[]⟩ := by unfold turnS who; (repeat' split) <;> simp_all [non]
              have q3 : turnB [] [] f = false := by unfold turnB who; (repeat' split) <;> simp_all [non]
              rw [hPn] at hPa
              rw [hQn] at hQa
              have hsum := Lib.hid hsum
              have hPh := Lib.hid hPn
              have hQh := Lib.hid hQn
              clear hlt lA lB hA hB
              go_wp2_with (first
                | (go_at_call 22; (with_reducible refine (htc f).mono ?_); rintro e w3 ⟨rfl, hm1, hm2, hK⟩
                   obtain ⟨bx3, by3, hP3, hQ3⟩ := after_turn bxa bya hPa hQa hm1 hm2 hK
                   have hs1 := same_mixed (k2 := cap0) hPh.out hP3 (SRow.later hAr (Nat.le_refl _) bx3.bel) (by omega)
                   clear hm1 hm2 hK)
                | (go_at_call 17; (with_reducible refine hs1.mono ?_); rintro e w4 ⟨rfl, hb⟩
                   have bx5 := bx3.below hb
                   have hQ5 := own_below hQ3 hb
                   have hs2 := same_mixed (k2 := cap1) hQh.out hQ5 (SRow.later hBr (Nat.le_refl _) bx5.bel) (by omega)
                   clear hb)
                | (go_at_call 17; (with_reducible refine hs2.mono ?_); rintro e w5 ⟨rfl, hb⟩
                   have bx6 := bx5.below hb
                   clear hb)
                | (go_at_call 26; (with_reducible refine (hfx _).mono ?_); rintro e w19 ⟨rfl, hq⟩
                   have h10 := bx6.below hq
                   clear hq))
              go_returns
              exact ⟨rfl, h10.bel⟩
end Go.Proofs.Ytgomnnddfddkhaa.VF
