/-
  Chapter 09: the walk of the law DiskTorn. DRAFT, NOT BUILT: the facts of the argument's cells (hcell) are to come from the row's opening ([]string: XStrRow).
-/
import Derived.Test.YtkmgbgolpogmpaaDskTorn
import Derived.Test.YtkmgbgolpogmpaaDskWhole
import Derived.Test.YtkmgbgolpogmpaaStrRow
import Derived.Deep.RegionHeld3
namespace Go.Proofs.Ytkmgbgolpogmpaa.VF
open Go.RowKit Go.Proofs.Ytkmgbgolpogmpaa Go.Proofs.Ytkmgbgolpogmpaa.DK
attribute [local go_sem] max2_int min2_int max_two min_two

/-- The disk of the law: file 2 alone is appended to. -/
def torn (all : ByteArray) : Four := ⟨eB, eB, all, eB⟩
/-- The loop's relation. -/
def TornRel (w0 w : World) (A : Nat) (i : Nat) (all kept : ByteArray) : Prop :=
  ∃ W cs, Own w0.heap.size w0 w A W (torn all) (torn kept) (app2 cs) ∧ all = kept ++ cat cs ∧ cs.length ≤ i ∧ (∀ s ∈ cs, s.size ≤ 40) ∧ all.size ≤ 40 * i
-- rounds: Sync at i = at (Own.nil, kept := all, cs := []); Append 2 s (append_walk: appendS = 0 by all.size ≤ 800; Own.puts; app2 (cs ++ [s]))
-- behind the loop: Kept 2, Read 2, Units (units_app2), Crash k (stays_app2; staysN k (cat cs).size = k), Read 2 = all.extract 0 (kept.size + k), fixed_walk
theorem Own_drew {N : Nat} {w0 w : World} {A : Nat} {W : Value} {n k : Four} {l : List Wr} (h : Own N w0 w A W n k l) : Own N w0 w.drew A W n k l := ⟨h.at_.drew, h.bel.drew, h.base, h.low, h.row⟩
theorem cutw_size2 (s : ByteArray) (j : Int) : (s.extract 0 j.toNat).size ≤ j.toNat := by simp only [ByteArray.size_extract]; omega
set_option maxHeartbeats 4000000 in
set_option maxRecDepth 100000 in
theorem DiskTorn_walk (a0 : Option Addr) (len0 cap0 : Nat) (z0 : List ByteArray) (a1 a2 : Int) (w : World) (w0 : SR.IsStrs w a0 len0 cap0 z0) (y0 : len0 * 16 ≤ 140737488351232) :
    Calls Try.prog 5 #[.slice a0 len0 cap0, .int .i64 a1, .int .i64 a2] w fun e w' => e = .returned (.bool true) ∧ Below w.heap.size w w' := by
  obtain ⟨m, hm⟩ : ∃ m : Nat, (if 20 < (len0 : Int) then 20 else (len0 : Int)) = (m : Int) := ⟨min 20 len0, by split <;> omega⟩
  have hml : m ≤ 20 ∧ m ≤ len0 := by split at hm <;> omega
  obtain ⟨y, hy, _⟩ := and_mask a1 (c := 65535) (by decide)
  rw [show ((65535 : Nat) : Int) = 65535 from rfl] at hy
  obtain ⟨t, ht, htm⟩ : ∃ t : Nat, Int.tmod (y : Int) ((m : Int) + 1) = (t : Int) ∧ t ≤ m := ⟨y % (m + 1), by rw [Int.tmod_eq_emod_of_nonneg (by omega)]; exact (Int.natCast_emod y (m + 1)).symm, by have := Nat.mod_lt y (show 0 < m + 1 by omega); omega⟩
  have hn := Own.new w
  go_enter Try.func5, Try.ntmps5
  go_wp2_with (go_at_call 9; (with_reducible refine (new_walk _).mono ?_); rintro e w1 ⟨rfl, rfl⟩)
  go_loopw [8, 9, 12] (fun v8 v9 v12 wr => ∃ (i : Nat) (all kept : ByteArray), v8 = .string all ∧ v9 = .string kept ∧ v12 = .int .i64 i ∧ i ≤ m ∧ TornRel w wr w.heap.size i all kept) (fun _ _ i _ => m - (intOf i).toNat)
  case atStart => exact ⟨0, ⟨#[]⟩, ⟨#[]⟩, rfl, rfl, rfl, Nat.zero_le _, .slice none 0 0, [], hn, by apply ByteArray.ext; simp [cat], Nat.le_refl _, (fun _ h => by simp at h), Nat.le_refl _⟩
  case round =>
    obtain ⟨i, all, kept, rfl, rfl, rfl, hi, W, cs, hO, hall, hcs, hsz, hsa⟩ := hrel
    have HA := Lib.hid hall
    clear hall
    by_cases hlt : i < m
    · rcases w0 with ⟨rfl, rfl, rfl, rfl⟩ | ⟨x, rfl, hlc, hcm, hzl, hcell, hzs⟩
      · omega
      have hx := hcell i (by omega)
      have hxb : (x.add i).block < w.heap.size := by
        unfold World.cell? at hx
        rcases Nat.lt_or_ge (x.add i).block w.heap.size with h | h
        · exact h
        · rw [Array.getElem?_eq_none h] at hx
          cases hx
      have hxw := (hO.bel.cell hxb).trans hx
      have hil : i < len0 := by omega
      clear hcell hx
      generalize z0.getD i ByteArray.empty = s at *
      obtain ⟨j, hj⟩ : ∃ j : Int, (if 40 < (s.size : Int) then 40 else (s.size : Int)) = j := ⟨_, rfl⟩
      have bj : 0 ≤ j ∧ j ≤ s.size ∧ j ≤ 40 := by rw [← hj]; split <;> omega
      obtain ⟨bj0, bj1, bj2⟩ := bj
      have zj := cutw_size2 s j
      obtain ⟨S, hS⟩ : ∃ S : ByteArray, s.extract 0 j.toNat = S := ⟨_, rfl⟩
      rw [hS] at zj
      by_cases hit : i = t
      · subst hit
        have cc : all.size + S.size ≤ 9223372036854775807 := by omega
        have hr : appendS (torn all) 2 S = 0 := by
          unfold appendS
          rw [if_neg (by decide), if_neg (by show ¬ (S.size : Int) > 65536 - (all.size : Int); omega)]
        have hr2 := Lib.hid hr
        have e1 : eB.size ≤ 65536 := by decide
        go_wp2_with (first
          | (go_at_call 13; (with_reducible refine (sync_walk hO.at_).mono ?_); rintro e w2 ⟨rfl, hq, hK⟩
             have h2 := hO.nil hq hK
             have hxw := (h2.bel.cell hxb).trans ((hO.bel.cell hxb).symm.trans hxw)
             have hO3 := Own_drew h2
             have hap := append_walk hO3.at_ (by simp) (at_le _ e1 e1 (by show all.size ≤ 65536; omega) e1) 2 S (by omega)
             clear hq hK))
        go_region
        go_wp2_with (first
          | (go_at_call 12; (with_reducible refine hap.mono ?_); rintro e w3 ⟨rfl, hq⟩
             simp only [hr, if_true] at hq
             obtain ⟨W3, h3, _, _⟩ := hO3.puts hq
             clear hq))
        go_roundw
        case rel => exact ⟨i + 1, all ++ S, all, rfl, rfl, by go_num, by omega, W3, [S], h3.eq rfl rfl rfl, by apply ByteArray.ext; simp [cat], by simp, (fun q hq => by simp at hq; subst hq; omega), by rw [ByteArray.size_append]; omega⟩
        case measure => simp [intOf]; omega
      · have hit2 : ¬ (i : Int) = t := by omega
        have cc : all.size + S.size ≤ 9223372036854775807 := by omega
        have hr : appendS (torn all) 2 S = 0 := by
          unfold appendS
          rw [if_neg (by decide), if_neg (by show ¬ (S.size : Int) > 65536 - (all.size : Int); omega)]
        have e1 : eB.size ≤ 65536 := by decide
        have hO := Own_drew hO
        have hap := append_walk hO.at_ (by unfold app2; rw [List.length_map]; omega) (at_le _ e1 e1 (by show all.size ≤ 65536; omega) e1) 2 S (by omega)
        have hr2 := Lib.hid hr
        go_wp2
        go_region
        go_wp2_with (first
          | (go_at_call 12; (with_reducible refine hap.mono ?_); rintro e w2 ⟨rfl, hq⟩
             simp only [hr, if_true] at hq
             obtain ⟨W2, h2, _, _⟩ := hO.puts hq
             clear hq))
        go_roundw
        case rel => exact ⟨i + 1, all ++ S, kept, rfl, rfl, by go_num, by omega, W2, cs ++ [S], h2.eq rfl rfl (by simp [app2]), by rw [HA.out, cat_append, ByteArray.append_assoc], by simp; omega, (fun q hq => by rcases List.mem_append.1 hq with h | h; exact hsz q h; simp at h; subst h; omega), by rw [ByteArray.size_append]; omega⟩
        case measure => simp [intOf]; omega
    · have hks0 : all.size = kept.size + (cat cs).size := by rw [HA.out, ByteArray.size_append]
      have hfx := fixed_walk
      have e1 : eB.size ≤ 65536 := by decide
      obtain ⟨y2, hy2, _⟩ := and_mask a2 (c := 65535) (by decide)
      rw [show ((65535 : Nat) : Int) = 65535 from rfl] at hy2
      by_cases hmt : t = m
      · have hmt3 : ((t : Int) == (m : Int)) = true := by simp [hmt]
        replace hmt := Lib.hid hmt
        go_upto_region 20 with (first
          | (go_at_call 13; (with_reducible refine (sync_walk hO.at_).mono ?_); rintro e w2 ⟨rfl, hq, hK⟩
             have h2 := hO.nil hq hK
             clear hq hK))
        clear hO HA hcs hsz hks0
        obtain ⟨kept, hkp⟩ : ∃ kp : ByteArray, all = kp := ⟨_, rfl⟩
        obtain ⟨cs, hcs0⟩ : ∃ c : List ByteArray, [] = c := ⟨_, rfl⟩
        have hO : Own w.heap.size w w2 w.heap.size (.slice none 0 0) (torn all) (torn kept) (app2 cs) := by
          rw [← hkp, ← hcs0]
          exact h2
        have HA : Hid (all = kept ++ cat cs) := Lib.hid (by
          rw [← hkp, ← hcs0]
          apply ByteArray.ext
          simp [cat])
        have hcs : cs.length ≤ i := by rw [← hcs0]; exact Nat.zero_le _
        have hsz : ∀ s ∈ cs, s.size ≤ 40 := by
          rw [← hcs0]
          intro s hs
          simp at hs
        have hks0 : all.size = kept.size + (cat cs).size := by rw [HA.out, ByteArray.size_append]
        conv in (occs := 2) (Value.string all) => rw [hkp]
        clear hkp hcs0 h2
        have hks := hks0
        clear hks0
        have hcz : (cat cs).size ≤ 800 := by omega
        obtain ⟨q, hq, hql⟩ : ∃ q : Nat, (y2 : Int) % (((cat cs).size : Int) + 1) = (q : Int) ∧ q ≤ (cat cs).size := ⟨y2 % ((cat cs).size + 1), by rw [show ((cat cs).size : Int) + 1 = (((cat cs).size + 1 : Nat) : Int) by omega]; exact (Int.natCast_emod y2 ((cat cs).size + 1)).symm, by have := Nat.mod_lt y2 (show 0 < (cat cs).size + 1 by omega); omega⟩
        have hd1 : (all.size : Int) - kept.size = (cat cs).size := by omega
        obtain ⟨pp, hpp⟩ : ∃ p : Nat, kept.size + q = p := ⟨_, rfl⟩
        have hd2 : (kept.size : Int) + q = (pp : Int) := by omega
        have hpl : pp ≤ all.size := by omega
        have hpl2 : pp ≤ 800 := by omega
        have hd3 : IntKind.i64.wrap ((cat cs).size : Int) = (cat cs).size := IntWalk.i64_in _ (by omega)
        have hd4 : IntKind.i64.wrap (pp : Int) = pp := IntWalk.i64_in _ (by omega)
        have hkz : kept.size ≤ 800 := by omega
        have hF : Fine (torn all) (torn kept) (app2 cs) := ⟨at_le _ e1 e1 (by show all.size ≤ 65536; omega) e1, at_le _ e1 e1 (by show kept.size ≤ 65536; omega) e1, by unfold app2; rw [List.length_map]; omega, by
          intro x hx
          unfold app2 at hx
          obtain ⟨s, hs, rfl⟩ := List.mem_map.1 hx
          have := hsz s hs
          exact ⟨by show (0 : Int) ≤ 2; decide, by show (2 : Int) < 4; decide, by show s.size ≤ 65536; omega⟩⟩
        have g5 : staysN (q : Int) (cat cs).size = q := by unfold staysN; omega
        have g6 : stays (app2 cs) q (torn kept) = torn (all.extract 0 (kept.size + q)) := by
          unfold torn
          rw [stays_app2, HA.out, extract_cat, show min (kept.size + q) kept.size = kept.size by omega, show kept.size + q - kept.size = q by omega]
          congr 2
          apply ByteArray.ext
          simp
        rw [hpp] at g6
        obtain ⟨left, hleft⟩ : ∃ b, all.extract 0 pp = b := ⟨_, rfl⟩
        rw [hleft] at g6
        replace g6 := Lib.hid g6
        have g1 : (torn kept).at 2 = kept := rfl
        have g2 : (torn all).at 2 = all := rfl
        have g7 : (torn left).at 2 = left := rfl
        have g3 : unitsOf (app2 cs) = (cat cs).size := units_app2 cs
        replace hsz := Lib.hid hsz
        replace hks := Lib.hid hks
        replace hpp := Lib.hid hpp
        go_wp2
        have hO := Own_drew hO
        go_region_held3 (fun _ => True) (trivial) (first
          | (go_at_call 20; (with_reducible refine (kept_walk hO.at_ 2).mono ?_); rintro e w7 ⟨rfl, rfl⟩)
          | (go_at_call 18; (with_reducible refine (read_walk hO.at_ 2).mono ?_); rintro e w7 ⟨rfl, rfl⟩)
          | (go_at_call 16; (with_reducible refine (units_walk hO.at_ (by unfold app2; rw [List.length_map]; omega) (by rw [g3]; omega)).mono ?_); rintro e w7 ⟨rfl, hb⟩
             have h7 := hO.below hb
             clear hb)
          | (go_at_call 23; (with_reducible refine (crash_walk h7.at_ hF (q : Int)).mono ?_); rintro e w8 ⟨rfl, hat, hK⟩
             have h8 := h7.nil hat hK
             rw [g3, g5, g6.out] at h8
             clear hat hK)
          | (go_at_call 18; (with_reducible refine (read_walk h8.at_ 2).mono ?_); rintro e w9 ⟨rfl, rfl⟩)
          | (go_at_call 22; (with_reducible refine (hfx _).mono ?_); rintro e w10 ⟨rfl, hb⟩
             have h10 := h8.below hb
             clear hb))
        go_wp2
        go_returns
        exact ⟨rfl, h10.bel⟩
      · have hmt2 : ¬ (t : Int) = m := by omega
        have hks := hks0
        clear hks0
        have hcz : (cat cs).size ≤ 800 := by omega
        obtain ⟨q, hq, hql⟩ : ∃ q : Nat, (y2 : Int) % (((cat cs).size : Int) + 1) = (q : Int) ∧ q ≤ (cat cs).size := ⟨y2 % ((cat cs).size + 1), by rw [show ((cat cs).size : Int) + 1 = (((cat cs).size + 1 : Nat) : Int) by omega]; exact (Int.natCast_emod y2 ((cat cs).size + 1)).symm, by have := Nat.mod_lt y2 (show 0 < (cat cs).size + 1 by omega); omega⟩
        have hd1 : (all.size : Int) - kept.size = (cat cs).size := by omega
        obtain ⟨pp, hpp⟩ : ∃ p : Nat, kept.size + q = p := ⟨_, rfl⟩
        have hd2 : (kept.size : Int) + q = (pp : Int) := by omega
        have hpl : pp ≤ all.size := by omega
        have hpl2 : pp ≤ 800 := by omega
        have hd3 : IntKind.i64.wrap ((cat cs).size : Int) = (cat cs).size := IntWalk.i64_in _ (by omega)
        have hd4 : IntKind.i64.wrap (pp : Int) = pp := IntWalk.i64_in _ (by omega)
        have hkz : kept.size ≤ 800 := by omega
        have hF : Fine (torn all) (torn kept) (app2 cs) := ⟨at_le _ e1 e1 (by show all.size ≤ 65536; omega) e1, at_le _ e1 e1 (by show kept.size ≤ 65536; omega) e1, by unfold app2; rw [List.length_map]; omega, by
          intro x hx
          unfold app2 at hx
          obtain ⟨s, hs, rfl⟩ := List.mem_map.1 hx
          have := hsz s hs
          exact ⟨by show (0 : Int) ≤ 2; decide, by show (2 : Int) < 4; decide, by show s.size ≤ 65536; omega⟩⟩
        have g5 : staysN (q : Int) (cat cs).size = q := by unfold staysN; omega
        have g6 : stays (app2 cs) q (torn kept) = torn (all.extract 0 (kept.size + q)) := by
          unfold torn
          rw [stays_app2, HA.out, extract_cat, show min (kept.size + q) kept.size = kept.size by omega, show kept.size + q - kept.size = q by omega]
          congr 2
          apply ByteArray.ext
          simp
        rw [hpp] at g6
        obtain ⟨left, hleft⟩ : ∃ b, all.extract 0 pp = b := ⟨_, rfl⟩
        rw [hleft] at g6
        replace g6 := Lib.hid g6
        have g1 : (torn kept).at 2 = kept := rfl
        have g2 : (torn all).at 2 = all := rfl
        have g7 : (torn left).at 2 = left := rfl
        have g3 : unitsOf (app2 cs) = (cat cs).size := units_app2 cs
        replace hsz := Lib.hid hsz
        replace hks := Lib.hid hks
        replace hpp := Lib.hid hpp
        go_wp2
        have hO := Own_drew hO
        go_region_held3 (fun _ => True) (trivial) (first
          | (go_at_call 20; (with_reducible refine (kept_walk hO.at_ 2).mono ?_); rintro e w7 ⟨rfl, rfl⟩)
          | (go_at_call 18; (with_reducible refine (read_walk hO.at_ 2).mono ?_); rintro e w7 ⟨rfl, rfl⟩)
          | (go_at_call 16; (with_reducible refine (units_walk hO.at_ (by unfold app2; rw [List.length_map]; omega) (by rw [g3]; omega)).mono ?_); rintro e w7 ⟨rfl, hb⟩
             have h7 := hO.below hb
             clear hb)
          | (go_at_call 23; (with_reducible refine (crash_walk h7.at_ hF (q : Int)).mono ?_); rintro e w8 ⟨rfl, hat, hK⟩
             have h8 := h7.nil hat hK
             rw [g3, g5, g6.out] at h8
             clear hat hK)
          | (go_at_call 18; (with_reducible refine (read_walk h8.at_ 2).mono ?_); rintro e w9 ⟨rfl, rfl⟩)
          | (go_at_call 22; (with_reducible refine (hfx _).mono ?_); rintro e w10 ⟨rfl, hb⟩
             have h10 := h8.below hb
             clear hb))
        go_wp2
        go_returns
        exact ⟨rfl, h10.bel⟩
end Go.Proofs.Ytkmgbgolpogmpaa.VF
