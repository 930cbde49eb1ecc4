import Derived.Test.YtkiepnmbimkadaaKOpens8
namespace Go.Proofs.Ytkiepnmbimkadaa.DK
open Go.RowKit Go.Proofs.Ytkiepnmbimkadaa
def afterT : List Wr → Int → Nat → ByteArray → ByteArray
  | [], _, _, s => s
  | x :: l, f, left, s => afterT l f (left - min left x.units) (if x.file = f then (if x.whole = true then (if min left x.units = 1 then x.s else s) else s ++ x.s.extract 0 (min left x.units)) else s)
theorem afterT_zero : ∀ (l : List Wr) (f : Int) (s : ByteArray), afterT l f 0 s = s
  | [], _, _ => rfl
  | x :: l, f, s => by
    show afterT l f (0 - min 0 x.units) _ = s
    rw [Nat.zero_min, Nat.sub_zero, afterT_zero l f]
    split
    · split
      · rfl
      · rw [extract_none, append_none]
    · rfl
theorem afterT_stays : ∀ (l : List Wr) (u : Nat) (r : Four) (f : Int), 0 ≤ f ∧ f < 4 → (stays l u r).at f = afterT l f u (r.at f)
  | [], _, _, _, _ => rfl
  | x :: l, u, r, f, hf => by
    by_cases h : x.whole = true ∧ min u x.units < x.units
    · have hu : x.units = 1 := by unfold Wr.units; rw [if_pos h.1]
      obtain rfl : u = 0 := by have := h.2; omega
      rw [stays_zero, afterT_zero]
    · rw [stays_on h, afterT_stays l _ _ f hf]
      show _ = afterT l f (u - min u x.units) _
      congr 1
      unfold Wr.act
      by_cases hw : x.whole = true
      · rw [if_pos hw]
        by_cases h1 : min u x.units = 1
        · rw [if_pos h1, at_to]
          by_cases hx : x.file = f
          · rw [if_pos ⟨by omega, by omega, hx⟩, if_pos hx, if_pos hw, if_pos h1]
          · rw [if_neg (fun g => hx g.2.2), if_neg hx]
        · rw [if_neg h1]
          split <;> simp [hw, h1]
      · rw [if_neg hw, at_to]
        by_cases hx : x.file = f
        · rw [if_pos ⟨by omega, by omega, hx⟩, if_pos hx, if_neg hw, hx]
        · rw [if_neg (fun g => hx g.2.2), if_neg hx]
def Wr.row (x : Wr) : List Value := [.int .i64 x.file, .string x.s, .bool x.whole]
def rowsOf : List Wr → List Value
  | [] => []
  | x :: l => x.row ++ rowsOf l
theorem rowsOf_append : ∀ l m : List Wr, rowsOf (l ++ m) = rowsOf l ++ rowsOf m
  | [], _ => rfl
  | x :: l, m => by
    show x.row ++ rowsOf (l ++ m) = x.row ++ rowsOf l ++ rowsOf m
    rw [rowsOf_append l m, List.append_assoc]
theorem rowsOf_at : ∀ (l : List Wr) (j : Nat) (hj : j < l.length) (c : Nat), c < 3 → (rowsOf l)[j * 3 + c]? = (l[j]'hj).row[c]?
  | [], j, hj, _, _ => absurd hj (by simp)
  | x :: l, 0, _, c, hc => by
    show (x.row ++ rowsOf l)[0 * 3 + c]? = _
    rw [List.getElem?_append_left (by show 0 * 3 + c < 3; omega), show 0 * 3 + c = c by omega]
    rfl
  | x :: l, j + 1, hj, c, hc => by
    show (x.row ++ rowsOf l)[(j + 1) * 3 + c]? = _
    rw [List.getElem?_append_right (by show 3 ≤ (j + 1) * 3 + c; omega)]
    have e : (j + 1) * 3 + c - x.row.length = j * 3 + c := by
      show (j + 1) * 3 + c - 3 = _
      omega
    rw [e]
    exact rowsOf_at l j (by simpa using hj) c hc
def rcells (r : Four) (V : Value) : Array Value := #[.string r.a, .string r.b, .string r.c, .string r.d, V]
structure RAt (w : World) (B : Nat) (V : Value) (k : Four) (l : List Wr) : Prop where
  cells : w.heap[B]? = some (.cells (rcells k V) 51 (0, 0))
  row : w.ownsRow 0 88 3 V l.length (rowsOf l)
  apart : V.ownBlock ≠ some B
theorem RAt.lt {w : World} {B : Nat} {V : Value} {k : Four} {l : List Wr} (h : RAt w B V k l) : B < w.heap.size := (Array.getElem?_eq_some_iff.1 h.cells).1
theorem RAt.cell {w : World} {B : Nat} {V : Value} {k : Four} {l : List Wr} (h : RAt w B V k l) (j : Nat) : w.cell? ⟨B, j, none⟩ = (rcells k V)[j]? := cell_of h.cells j
theorem RAt.frozen {w : World} {B : Nat} {V : Value} {k : Four} {l : List Wr} (h : RAt w B V k l) (j : Nat) : w.frozen? ⟨B, j, none⟩ = false := by
  simp [World.frozen?, h.cells]
theorem RAt.below {w w2 : World} {B : Nat} {V : Value} {k : Four} {l : List Wr} (h : RAt w B V k l) (hb : Below w.heap.size w w2) : RAt w2 B V k l :=
  ⟨(hb.block B h.lt).trans h.cells, h.row.kept (row := none) ⟨hb.os, hb.tape, hb.output, hb.size, fun k hk _ => hb.block k hk⟩ (by
    cases hV : V.ownBlock with
    | none => exact .inl rfl
    | some b => exact .inr (by simp)), h.apart⟩
theorem RAt.drew {w : World} {B : Nat} {V : Value} {k : Four} {l : List Wr} (h : RAt w B V k l) : RAt w.drew B V k l := ⟨h.cells, h.row, h.apart⟩
theorem RAt.alloc {w : World} {B : Nat} {V : Value} {k : Four} {l : List Wr} (h : RAt w B V k l) (o : Obj) : RAt (w.alloc o) B V k l := h.below ((Below.refl _ _).alloc (Nat.le_refl _) o)
theorem RAt.wr {w : World} {B : Nat} {V : Value} {k : Four} {l : List Wr} (h : RAt w B V k l) : V = .slice none 0 0 ∧ l = [] ∨ ∃ g cap, V = .slice (some ⟨g, 0, none⟩) l.length cap ∧ g < w.heap.size ∧
    ∀ (j : Nat) (hj : j < l.length), w.cell? ⟨g, j * 3, none⟩ = some (.int .i64 (l[j]'hj).file) ∧ w.cell? ⟨g, j * 3 + 1, none⟩ = some (.string (l[j]'hj).s) ∧ w.cell? ⟨g, j * 3 + 2, none⟩ = some (.bool (l[j]'hj).whole) := by
  rcases h.row.2 with ⟨e, h0⟩ | ⟨g, cap, cur, e, _, hg, _, _, _, _⟩
  · exact .inl ⟨e, List.eq_nil_of_length_eq_zero h0⟩
  · refine .inr ⟨g, cap, e, (Array.getElem?_eq_some_iff.1 hg).1, fun j hj => ?_⟩
    have h2 := h.row
    rw [e] at h2
    exact ⟨(h2.cellAt (j * 3) (by omega)).trans (rowsOf_at l j hj 0 (by omega)), (h2.cellAt (j * 3 + 1) (by omega)).trans (rowsOf_at l j hj 1 (by omega)), (h2.cellAt (j * 3 + 2) (by omega)).trans (rowsOf_at l j hj 2 (by omega))⟩
set_option maxHeartbeats 4000000 in
theorem runits_walk {w : World} {B : Nat} {V : Value} {k : Four} {l : List Wr} (h : RAt w B V k l) (hl : l.length ≤ 1000000) (hu : unitsOf l ≤ 100000000000) :
    Calls Try.prog 34 #[.pointer (some ⟨B, 0, none⟩)] w fun e w' => e = .returned (.int .i64 (unitsOf l)) ∧ w = w' := by
  have c4 : w.cell? ⟨B, 4, none⟩ = some V := h.cell 4
  rcases h.wr with ⟨rfl, rfl⟩ | ⟨g, cap, rfl, hg, hc⟩
  · clear h
    go_enter Try.func34, Try.ntmps34
    go_wp2
    refine wp_loop_rounds 1 ?_
    rw [rounds_succ]
    go_wp2
    go_returns
    exact ⟨rfl, rfl⟩
  · clear h
    go_enter Try.func34, Try.ntmps34
    go_wp2
    go_loopw [3, 4] (fun v3 v4 wr => ∃ j : Nat, j ≤ l.length ∧ v4 = .int .i64 j ∧ v3 = .int .i64 (unitsOf (l.take j) : Nat) ∧ wr = w) (fun _ i _ => l.length - (intOf i).toNat)
    case atStart => exact ⟨0, Nat.zero_le _, rfl, rfl, rfl⟩
    case round =>
      obtain ⟨j, hj, rfl, rfl, rfl⟩ := hrel
      by_cases hlt : j < l.length
      · obtain ⟨k0, k1, k2⟩ := hc j hlt
        have htk : l.take (j + 1) = l.take j ++ [l[j]'hlt] := List.take_succ_eq_append_getElem hlt
        have hun : unitsOf (l.take (j + 1)) = unitsOf (l.take j) + (l[j]'hlt).units := by rw [htk, unitsOf_append]; simp [unitsOf]
        have hle : unitsOf (l.take (j + 1)) ≤ unitsOf l := by
          conv => rhs; rw [← List.take_append_drop (j + 1) l, unitsOf_append]
          omega
        generalize l[j]'hlt = x at *
        clear hc
        cases hw : x.whole
        · have hxu : x.units = x.s.size := by unfold Wr.units; rw [if_neg (by simp [hw])]
          rw [hw] at k2
          rw [hxu] at hun
          go_wp2
          go_roundw
          case rel => exact ⟨j + 1, by omega, by go_num, by rw [hun]; go_num, by trivial⟩
          case measure => simp [intOf]; omega
        · have hxu : x.units = 1 := by unfold Wr.units; rw [if_pos hw]
          rw [hw] at k2
          rw [hxu] at hun
          go_wp2
          go_roundw
          case rel => exact ⟨j + 1, by omega, by go_num, by rw [hun]; go_num, by trivial⟩
          case measure => simp [intOf]; omega
      · have hjl : j = l.length := by omega
        have htk : l.take j = l := by rw [hjl, List.take_length]
        rw [htk]
        go_wp2
        go_returns
        exact ⟨rfl, by trivial⟩
set_option maxHeartbeats 4000000 in
theorem rkept_walk {w : World} {B : Nat} {V : Value} {k : Four} {l : List Wr} (h : RAt w B V k l) (i : Int) :
    Calls Try.prog 49 #[.pointer (some ⟨B, 0, none⟩), .int .i64 i] w fun e w' => e = .returned (.string (k.at i)) ∧ w = w' := by
  have c0 : w.cell? ⟨B, 0, none⟩ = some (.string k.a) := h.cell 0
  have c1 : w.cell? ⟨B, 1, none⟩ = some (.string k.b) := h.cell 1
  have c2 : w.cell? ⟨B, 2, none⟩ = some (.string k.c) := h.cell 2
  have c3 : w.cell? ⟨B, 3, none⟩ = some (.string k.d) := h.cell 3
  by_cases hk : 0 ≤ i ∧ i < 4
  · rcases at_cases hk.1 hk.2 with rfl | rfl | rfl | rfl
    all_goals
      clear hk h
      go_enter Try.func49, Try.ntmps49
      go_wp2
      go_returns
      exact ⟨rfl, rfl⟩
  · rw [Four.out _ hk]
    have h0 : i < 0 ∨ 0 ≤ i ∧ 3 < i := by omega
    clear hk h
    rcases h0 with h0 | ⟨h0, h1⟩
    all_goals
      go_enter Try.func49, Try.ntmps49
      go_wp2
      go_returns
      exact ⟨rfl, rfl⟩
theorem rfour_cell {w : World} {B : Nat} {V : Value} {k : Four} {l : List Wr} (h : RAt w B V k l) {j : Nat} (hj : j < 4) : w.cell? ⟨B, j, none⟩ = some (.string (k.at j)) := by
  rw [h.cell]
  match j, hj with
  | 0, _ => rfl
  | 1, _ => rfl
  | 2, _ => rfl
  | 3, _ => rfl
def stepS (x : Wr) (f : Int) (left : Nat) (s : ByteArray) : ByteArray := if x.file = f then (if x.whole = true then (if min left x.units = 1 then x.s else s) else s ++ x.s.extract 0 (min left x.units)) else s
theorem hq_lt {L : List Wr} {f : Int} {left : Nat} {s t T : ByteArray} (q : Hid (afterT L f (left - min left t.size) (s ++ t.extract 0 (min left t.size)) = T)) (h : left < t.size) : Hid (afterT L f 0 (s ++ t.extract 0 left) = T) := by
  rw [show min left t.size = left by omega, Nat.sub_self] at q
  exact q
theorem hq_ge {L : List Wr} {f : Int} {left : Nat} {s t T : ByteArray} (q : Hid (afterT L f (left - min left t.size) (s ++ t.extract 0 (min left t.size)) = T)) (h : t.size ≤ left) : Hid (afterT L f (left - t.size) (s ++ t) = T) := by
  rw [show min left t.size = t.size by omega, extract_whole] at q
  exact q
theorem hr_lt {L : List Wr} {f : Int} {left n : Nat} {s T : ByteArray} (q : Hid (afterT L f (left - min left n) s = T)) (h : left < n) : Hid (afterT L f 0 s = T) := by
  rw [show min left n = left by omega, Nat.sub_self] at q
  exact q
theorem hr_ge {L : List Wr} {f : Int} {left n : Nat} {s T : ByteArray} (q : Hid (afterT L f (left - min left n) s = T)) (h : n ≤ left) : Hid (afterT L f (left - n) s = T) := by
  rw [show min left n = n by omega] at q
  exact q
set_option maxHeartbeats 8000000 in
theorem after_walk {w : World} {B : Nat} {V : Value} {k : Four} {l : List Wr} (h : RAt w B V k l) (hl : l.length ≤ 1000) (hok : ∀ x ∈ l, x.ok) (hk : ∀ i, (k.at i).size ≤ 65536) {f : Nat} (hf : f < 4) (u : Nat) (hu : u ≤ 100000000000) :
    Calls Try.prog 52 #[.pointer (some ⟨B, 0, none⟩), .int .i64 f, .int .i64 u] w fun e w' => e = .returned (.string (afterT l f u (k.at f))) ∧ Below w.heap.size w w' := by
  have hB := h.lt
  have c4 : w.cell? ⟨B, 4, none⟩ = some V := h.cell 4
  have cf := rfour_cell h hf
  have hkf := hk f
  have hgo0 := Lib.hid (show afterT (l.drop 0) f u (k.at f) = afterT l f u (k.at f) by rw [List.drop_zero])
  rcases h.wr with ⟨rfl, rfl⟩ | ⟨g, cap, rfl, hg, hc⟩
  · clear h hk hkf hok hgo0
    go_enter Try.func52, Try.ntmps52
    go_wp2
    refine wp_loop_rounds 1 ?_
    rw [rounds_succ]
    go_wp2
    go_returns
    exact ⟨rfl, Below.refl _ _⟩
  · have step : ∀ (j : Nat) (wr : World), Below w.heap.size w wr → ∀ hj : j < l.length, wr.cell? ⟨g, j * 3, none⟩ = some (.int .i64 (l[j]'hj).file) ∧ wr.cell? ⟨g, j * 3 + 1, none⟩ = some (.string (l[j]'hj).s) ∧ wr.cell? ⟨g, j * 3 + 2, none⟩ = some (.bool (l[j]'hj).whole) :=
      fun j wr hb hj => ⟨(hb.cell (p := ⟨g, j * 3, none⟩) hg).trans (hc j hj).1, (hb.cell (p := ⟨g, j * 3 + 1, none⟩) hg).trans (hc j hj).2.1, (hb.cell (p := ⟨g, j * 3 + 2, none⟩) hg).trans (hc j hj).2.2⟩
    clear hc h hk
    go_enter Try.func52, Try.ntmps52
    go_wp2
    go_loopw [7, 8, 9] (fun v7 v8 v9 wr => ∃ (j left : Nat) (s : ByteArray), j ≤ l.length ∧ v9 = .int .i64 j ∧ v8 = .int .i64 left ∧ v7 = .string s ∧ left ≤ 100000000000 ∧ Hid (afterT (l.drop j) f left s = afterT l f u (k.at f)) ∧ s.size ≤ 65536 * (j + 1) ∧ Below w.heap.size w wr) (fun _ _ i _ => l.length - (intOf i).toNat)
    case atStart => exact ⟨0, u, _, Nat.zero_le _, rfl, rfl, rfl, hu, hgo0, by omega, Below.refl _ _⟩
    case round =>
      obtain ⟨j, left, s, hj, rfl, rfl, rfl, hle, hgo, hsz, hb⟩ := hrel
      have k4 := (hb.cell (p := ⟨B, 4, none⟩) hB).trans c4
      by_cases hlt : j < l.length
      · obtain ⟨k0, k1, k2⟩ := step j wr hb hlt
        have hx := hok _ (List.getElem_mem hlt)
        rw [List.drop_eq_getElem_cons hlt] at hgo
        generalize l[j]'hlt = x at *
        clear step c4 cf hok hgo0
        have hxs := hx.2.2
        have hb2 := hb.alloc hb.size (.cells #[.int .i64 x.file, .string x.s, .bool x.whole] 88)
        have hst : afterT (l.drop (j + 1)) f (left - min left x.units) (stepS x f left s) = afterT l f u (k.at f) := hgo.out
        have cc : s.size + x.s.size ≤ 9223372036854775807 := by omega
        clear hgo hkf
        obtain ⟨fl, hfl⟩ : ∃ fl, x.file = fl := ⟨_, rfl⟩
        cases hw : x.whole
        · have hxu : x.units = x.s.size := by unfold Wr.units; rw [if_neg (by simp [hw])]
          rw [hxu] at hst
          rw [hw] at k2 hb2
          by_cases hf2 : x.file = f
          · have hb4 : (fl == (f : Int)) = true := by simp [← hfl, hf2]
            have hS : stepS x f left s = s ++ x.s.extract 0 (min left x.s.size) := by unfold stepS; rw [if_pos hf2, if_neg (by simp [hw]), hxu]
            rw [hS] at hst
            rw [hfl] at k0 hb2
            have q1 := Lib.hid hst
            clear hS hxu hf2 hx hst hfl
            go_wp2
            all_goals
              go_roundw
              case rel => first | exact ⟨j + 1, 0, _, by omega, by go_num, by go_num, rfl, by omega, hq_lt q1 (by omega), by simp only [ByteArray.size_append, ByteArray.size_extract]; omega, hb2⟩ | exact ⟨j + 1, left - x.s.size, _, by omega, by go_num, by go_num, rfl, by omega, hq_ge q1 (by omega), by simp only [ByteArray.size_append, ByteArray.size_extract]; omega, hb2⟩
              case measure => simp [intOf]; omega
          · have hb4 : (fl == (f : Int)) = false := by simpa [← hfl] using hf2
            have hS : stepS x f left s = s := by unfold stepS; rw [if_neg hf2]
            rw [hS] at hst
            rw [hfl] at k0 hb2
            have q1 := Lib.hid hst
            clear hS hxu hf2 hx hst hfl
            go_wp2
            all_goals
              go_roundw
              case rel => first | exact ⟨j + 1, 0, _, by omega, by go_num, by go_num, rfl, by omega, hr_lt q1 (by omega), by omega, hb2⟩ | exact ⟨j + 1, left - x.s.size, _, by omega, by go_num, by go_num, rfl, by omega, hr_ge q1 (by omega), by omega, hb2⟩
              case measure => simp [intOf]; omega
        · have hxu : x.units = 1 := by unfold Wr.units; rw [if_pos hw]
          rw [hxu] at hst
          rw [hw] at k2 hb2
          by_cases hz : left = 0
          · subst hz
            have hS : stepS x f 0 s = s := by unfold stepS; rw [if_pos hw, hxu]; split <;> simp
            rw [hS] at hst
            rw [hfl] at k0 hb2
            have q1 := Lib.hid hst
            clear hS hxu hx hst
            by_cases hf2 : fl = f
            · have hb4 : (fl == (f : Int)) = true := by simp [hf2]
              clear hf2 hfl
              go_wp2
              go_roundw
              case rel => exact ⟨j + 1, 0, _, by omega, by go_num, by go_num, rfl, by omega, q1, by omega, hb2⟩
              case measure => simp [intOf]; omega
            · have hb4 : (fl == (f : Int)) = false := by simpa using hf2
              clear hf2 hfl
              go_wp2
              go_roundw
              case rel => exact ⟨j + 1, 0, _, by omega, by go_num, by go_num, rfl, by omega, q1, by omega, hb2⟩
              case measure => simp [intOf]; omega
          · have h1 : ¬ (left : Int) < 1 := by omega
            have h1b : ¬ left < 1 := by omega
            have hm : min left 1 = 1 := by omega
            by_cases hf2 : x.file = f
            · have hb4 : (fl == (f : Int)) = true := by simp [← hfl, hf2]
              have hS : stepS x f left s = x.s := by unfold stepS; rw [if_pos hf2, if_pos hw, hxu, if_pos hm]
              rw [hS, hm] at hst
              rw [hfl] at k0 hb2
              have q1 := Lib.hid hst
              clear hS hxu hf2 hx hst hfl
              go_wp2
              go_roundw
              case rel => exact ⟨j + 1, left - 1, _, by omega, by go_num, by go_num, rfl, by omega, q1, by omega, hb2⟩
              case measure => simp [intOf]; omega
            · have hb4 : (fl == (f : Int)) = false := by simpa [← hfl] using hf2
              have hS : stepS x f left s = s := by unfold stepS; rw [if_neg hf2]
              rw [hS, hm] at hst
              rw [hfl] at k0 hb2
              have q1 := Lib.hid hst
              clear hS hxu hf2 hx hst hfl
              go_wp2
              go_roundw
              case rel => exact ⟨j + 1, left - 1, _, by omega, by go_num, by go_num, rfl, by omega, q1, by omega, hb2⟩
              case measure => simp [intOf]; omega
      · have hjl : j = l.length := by omega
        rw [hjl, List.drop_length] at hgo
        have hgo2 : s = afterT l f u (k.at f) := hgo.out
        have hgo3 := Lib.hid hgo2
        subst hjl
        clear step hgo hgo2 hgo0
        go_wp2
        go_returns
        exact ⟨by rw [← hgo3.out]; rfl, hb⟩
end Go.Proofs.Ytkiepnmbimkadaa.DK
