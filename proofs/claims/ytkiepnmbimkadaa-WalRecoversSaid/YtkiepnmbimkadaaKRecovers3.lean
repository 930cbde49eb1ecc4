import Derived.Test.YtkiepnmbimkadaaKRecovers2
namespace Go.Proofs.Ytkiepnmbimkadaa.DK
open Go.RowKit Go.Proofs.Ytkiepnmbimkadaa
def appendS (n : Four) (i : Int) (s : ByteArray) : Int := if ¬ (0 ≤ i ∧ i < 4) then 1 else if (s.size : Int) > 65536 - ((n.at i).size : Int) then 2 else 0
set_option maxHeartbeats 2000000 in
theorem append_walk {w : World} {A : Nat} {W : Value} {n k : Four} {l : List Wr} (h : At w A W n k l) (hl : l.length ≤ 1000000) (hn : ∀ i, (n.at i).size ≤ 65536) (i : Int) (s : ByteArray) (hs : s.size ≤ 140737488351232) :
    Calls Try.prog 29 #[.pointer (some ⟨A, 0, none⟩), .int .i64 i, .string s] w fun e w' => e = .returned (.int .i64 (appendS n i s)) ∧
      (if appendS n i s = 0 then Puts w w' A W (n.to i (n.at i ++ s)) k (l ++ [⟨false, i, s⟩]) else w' = w) := by
  have c0 : w.cell? ⟨A, 0, none⟩ = some (.string n.a) := h.cell 0
  have c1 : w.cell? ⟨A, 1, none⟩ = some (.string n.b) := h.cell 1
  have c2 : w.cell? ⟨A, 2, none⟩ = some (.string n.c) := h.cell 2
  have c3 : w.cell? ⟨A, 3, none⟩ = some (.string n.d) := h.cell 3
  by_cases hk : 0 ≤ i ∧ i < 4
  · have hn2 := hn i
    by_cases hb : (s.size : Int) > 65536 - ((n.at i).size : Int)
    · have hr : appendS n i s = 2 := by unfold appendS; rw [if_neg (by simp [hk]), if_pos hb]
      rw [hr]
      rcases at_cases hk.1 hk.2 with rfl | rfl | rfl | rfl
      all_goals
        clear hk h hr hn
        simp only [Four.at, Int.reduceEq, if_true, if_false] at hb hn2
        have hb2 := Lib.hid hb
        go_enter Try.func29, Try.ntmps29
        go_wp2
        go_returns
        exact ⟨rfl, by simp⟩
    · have hr : appendS n i s = 0 := by unfold appendS; rw [if_neg (by simp [hk]), if_neg hb]
      rw [hr]
      have hp := put_walk h hl hk s (by omega)
      rcases at_cases hk.1 hk.2 with rfl | rfl | rfl | rfl
      all_goals
        clear hk h hr hn
        simp only [Four.at, Int.reduceEq, if_true, if_false] at hb hn2
        go_enter Try.func29, Try.ntmps29
        go_wp2_with (first | (go_at_call 43; refine (known_walk _ _).mono ?_; rintro e w2 ⟨rfl, rfl⟩) | (go_at_call 44; refine hp.mono ?_; rintro e w2 ⟨rfl, hq⟩))
        go_returns
        exact ⟨rfl, by simpa [Four.at] using hq⟩
  · have hr : appendS n i s = 1 := by unfold appendS; rw [if_pos hk]
    rw [hr]
    by_cases h0 : 0 ≤ i
    · have h1 : ¬ i < 4 := fun h => hk ⟨h0, h⟩
      clear hk h hr hn
      go_enter Try.func29, Try.ntmps29
      go_wp2
      go_returns
      exact ⟨rfl, by simp⟩
    · clear hk h hr hn
      go_enter Try.func29, Try.ntmps29
      go_wp2
      go_returns
      exact ⟨rfl, by simp⟩
def replaceS (i : Int) (s : ByteArray) : Int := if ¬ (0 ≤ i ∧ i < 4) then 1 else if (s.size : Int) > 65536 then 2 else 0
set_option maxHeartbeats 2000000 in
theorem replace_walk {w : World} {A : Nat} {W : Value} {n k : Four} {l : List Wr} (h : At w A W n k l) (hl : l.length ≤ 1000000) (i : Int) (s : ByteArray) (hs : s.size ≤ 140737488351232) :
    Calls Try.prog 22 #[.pointer (some ⟨A, 0, none⟩), .int .i64 i, .string s] w fun e w' => e = .returned (.int .i64 (replaceS i s)) ∧
      (if replaceS i s = 0 then Puts w w' A W (n.to i s) k (l ++ [⟨true, i, s⟩]) else w' = w) := by
  by_cases hk : 0 ≤ i ∧ i < 4
  · by_cases hb : (s.size : Int) > 65536
    · have hr : replaceS i s = 2 := by unfold replaceS; rw [if_neg (by simp [hk]), if_pos hb]
      rw [hr]
      obtain ⟨h0, h1⟩ := hk
      clear h hr
      go_enter Try.func22, Try.ntmps22
      go_wp2
      go_returns
      exact ⟨rfl, by simp⟩
    · have hr : replaceS i s = 0 := by unfold replaceS; rw [if_neg (by simp [hk]), if_neg hb]
      rw [hr]
      have hp := put_instead h hl hk s
      have hkn := known_walk i
      simp only [hk, and_self, decide_true] at hkn
      clear hk h hr
      go_enter Try.func22, Try.ntmps22
      go_wp2_with (first | (go_at_call 43; refine (hkn _).mono ?_; rintro e w2 ⟨rfl, rfl⟩) | (go_at_call 44; refine hp.mono ?_; rintro e w2 ⟨rfl, hq⟩))
      go_returns
      exact ⟨rfl, by simpa using hq⟩
  · have hr : replaceS i s = 1 := by unfold replaceS; rw [if_pos hk]
    rw [hr]
    by_cases h0 : 0 ≤ i
    · have h1 : ¬ i < 4 := fun h => hk ⟨h0, h⟩
      clear hk h hr
      go_enter Try.func22, Try.ntmps22
      go_wp2
      go_returns
      exact ⟨rfl, by simp⟩
    · clear hk h hr
      go_enter Try.func22, Try.ntmps22
      go_wp2
      go_returns
      exact ⟨rfl, by simp⟩
def unitsOf : List Wr → Nat
  | [] => 0
  | x :: l => x.units + unitsOf l
theorem unitsOf_append : ∀ l m, unitsOf (l ++ m) = unitsOf l + unitsOf m
  | [], m => by simp [unitsOf]
  | x :: l, m => by simp only [List.cons_append, unitsOf, unitsOf_append l m]; omega
theorem wr_units (x : Wr) : x.val = .iface 81 (.agg #[.int .i64 x.file, .string x.s]) ∧ x.whole = true ∨ x.val = .iface 86 (.agg #[.int .i64 x.file, .string x.s]) ∧ x.whole = false := by
  unfold Wr.val
  cases x.whole <;> simp
theorem At.wr {w : World} {A : Nat} {W : Value} {n k : Four} {l : List Wr} (h : At w A W n k l) : W = .slice none 0 0 ∧ l = [] ∨ ∃ g cap, W = .slice (some ⟨g, 0, none⟩) l.length cap ∧ g < w.heap.size ∧ ∀ (j : Nat) (hj : j < l.length), w.cell? ⟨g, j, none⟩ = some (l[j]'hj).val := by
  rcases h.row.2 with ⟨e, h0⟩ | ⟨g, cap, cur, e, _, hg, _, _, _, _⟩
  · exact .inl ⟨e, List.eq_nil_of_length_eq_zero h0⟩
  · refine .inr ⟨g, cap, e, (Array.getElem?_eq_some_iff.1 hg).1, fun j hj => ?_⟩
    have h2 := h.row
    rw [e] at h2
    rw [h2.cellAt j (by omega)]
    simp [hj]
set_option maxHeartbeats 2000000 in
theorem units_walk {w : World} {A : Nat} {W : Value} {n k : Four} {l : List Wr} (h : At w A W n k l) (hl : l.length ≤ 1000000) (hu : unitsOf l ≤ 100000000000) :
    Calls Try.prog 11 #[.pointer (some ⟨A, 0, none⟩)] w fun e w' => e = .returned (.int .i64 (unitsOf l)) ∧ Below w.heap.size w w' := by
  have c8 : w.cell? ⟨A, 8, none⟩ = some W := h.cell 8
  rcases h.wr with ⟨rfl, rfl⟩ | ⟨g, cap, rfl, hg, hc⟩
  · clear h
    go_enter Try.func11, Try.ntmps11
    go_wp2
    refine wp_loop_rounds 1 ?_
    rw [rounds_succ]
    go_wp2
    go_returns
    exact ⟨rfl, Below.refl _ _⟩
  · have hA := h.lt
    clear h
    go_enter Try.func11, Try.ntmps11
    go_wp2
    go_loopw [3, 11] (fun v3 v11 wr => ∃ j : Nat, j ≤ l.length ∧ v11 = .int .i64 j ∧ v3 = .int .i64 (unitsOf (l.take j) : Nat) ∧ Below w.heap.size w wr) (fun _ i _ => l.length - (intOf i).toNat)
    case atStart => exact ⟨0, Nat.zero_le _, rfl, rfl, Below.refl _ _⟩
    case round =>
      obtain ⟨j, hj, rfl, rfl, hb⟩ := hrel
      by_cases hlt : j < l.length
      · have hcj := (hb.cell (p := ⟨g, j, none⟩) hg).trans (hc j hlt)
        have htk : l.take (j + 1) = l.take j ++ [l[j]'hlt] := List.take_succ_eq_append_getElem hlt
        have hun : unitsOf (l.take (j + 1)) = unitsOf (l.take j) + (l[j]'hlt).units := by rw [htk, unitsOf_append]; simp [unitsOf]
        have hle : unitsOf (l.take (j + 1)) ≤ unitsOf l := by
          have := unitsOf_append (l.take (j + 1)) (l.drop (j + 1))
          rw [List.take_append_drop] at this
          omega
        have hsz := hb.size
        generalize l[j]'hlt = x at *
        have HU := Lib.hid hun
        have HL := Lib.hid hle
        have HB := Lib.hid hb
        clear hun hle hb htk hc
        rcases wr_units x with ⟨e, hx⟩ | ⟨e, hx⟩
        · have hxu := Lib.hid (show x.units = 1 by unfold Wr.units; rw [if_pos hx])
          rw [e] at hcj
          clear e hx
          go_wp2
          go_roundw
          case rel => exact ⟨j + 1, by omega, by go_num, by have h2 := HL.out; have h3 := HU.out; have h4 := hxu.out; rw [HU.out, hxu.out]; congr 1; rw [IntWalk.wrap64_in _ (by omega)]; omega, by have := HB.out; go_grown⟩
          case measure => simp [intOf]; omega
        · have hxu := Lib.hid (show x.units = x.s.size by unfold Wr.units; rw [if_neg (by simp [hx])])
          rw [e] at hcj
          clear e hx
          go_wp2
          go_roundw
          case rel => exact ⟨j + 1, by omega, by go_num, by have h2 := HL.out; have h3 := HU.out; have h4 := hxu.out; rw [HU.out, hxu.out]; congr 1; rw [IntWalk.wrap64_in _ (by omega)]; omega, by have := HB.out; go_grown⟩
          case measure => simp [intOf]; omega
      · clear hc
        go_wp2
        go_returns
        exact ⟨by rw [List.take_of_length_le (by omega)]; rfl, hb⟩
end Go.Proofs.Ytkiepnmbimkadaa.DK
