/-
  Chapter 03: the program's Less, and that it is an order.
-/
import Derived.Test.YtfakimleoihfgaaDoorTopFilt
import Derived.Laws.Cover1
namespace Go.Proofs.YtfakimleoihfgaaDoor.TW
open Go Go.RowKit Go.Proofs.YtfakimleoihfgaaDoor Go.Proofs.YtfakimleoihfgaaDoor.TP

def ltB (x y : ByteArray) : Bool := Op.bytesLess x.data.toList y.data.toList
theorem less_irrefl : ∀ x : List UInt8, Op.bytesLess x x = false
  | [] => rfl
  | a :: x => by simp [Op.bytesLess, less_irrefl x]
theorem less_asymm : ∀ x y : List UInt8, Op.bytesLess x y = true → Op.bytesLess y x = false
  | [], [], h => by simp [Op.bytesLess] at h
  | [], _ :: _, _ => rfl
  | _ :: _, [], h => by simp [Op.bytesLess] at h
  | a :: x, b :: y, h => by
    simp only [Op.bytesLess, Bool.or_eq_true, decide_eq_true_eq, Bool.and_eq_true, beq_iff_eq] at h
    simp only [Op.bytesLess, Bool.or_eq_false_iff, decide_eq_false_iff_not, Bool.and_eq_false_iff]
    rcases h with h | ⟨rfl, h⟩
    · exact ⟨UInt8.lt_asymm h, .inl (by simp; exact fun e => by subst e; exact UInt8.lt_irrefl _ h)⟩
    · exact ⟨UInt8.lt_irrefl _, .inr (less_asymm x y h)⟩
theorem less_total : ∀ x y : List UInt8, x ≠ y → Op.bytesLess x y = true ∨ Op.bytesLess y x = true
  | [], [], h => absurd rfl h
  | [], _ :: _, _ => .inl rfl
  | _ :: _, [], _ => .inr rfl
  | a :: x, b :: y, h => by
    simp only [Op.bytesLess, Bool.or_eq_true, decide_eq_true_eq, Bool.and_eq_true, beq_iff_eq]
    by_cases e : a = b
    · subst e
      rcases less_total x y (fun e => h (by rw [e])) with g | g
      · exact .inl (.inr ⟨rfl, g⟩)
      · exact .inr (.inr ⟨rfl, g⟩)
    · have : a < b ∨ b < a := by
        rcases UInt8.lt_or_lt_of_ne e with g | g
        · exact .inl g
        · exact .inr g
      rcases this with g | g
      · exact .inl (.inl g)
      · exact .inr (.inl g)
theorem less_trans : ∀ x y z : List UInt8, Op.bytesLess x y = true → Op.bytesLess y z = true → Op.bytesLess x z = true
  | _, [], _, h, _ => by simp [Op.bytesLess] at h
  | _, _ :: _, [], _, h => by simp [Op.bytesLess] at h
  | [], _ :: _, _ :: _, _, _ => rfl
  | a :: x, b :: y, c :: z, h1, h2 => by
    simp only [Op.bytesLess, Bool.or_eq_true, decide_eq_true_eq, Bool.and_eq_true, beq_iff_eq] at h1 h2 ⊢
    rcases h1 with h1 | ⟨rfl, h1⟩
    · rcases h2 with h2 | ⟨rfl, h2⟩
      · exact .inl (UInt8.lt_trans h1 h2)
      · exact .inl h1
    · rcases h2 with h2 | ⟨rfl, h2⟩
      · exact .inl h2
      · exact .inr ⟨rfl, less_trans x y z h1 h2⟩
theorem ltB_irrefl (x : ByteArray) : ltB x x = false := less_irrefl _
theorem ltB_asymm {x y : ByteArray} (h : ltB x y = true) : ltB y x = false := less_asymm _ _ h
theorem ltB_total {x y : ByteArray} (h : x ≠ y) : ltB x y = true ∨ ltB y x = true := less_total _ _ (fun e => h (ba_ext e))
theorem ltB_trans {x y z : ByteArray} (h : ltB x y = true) (h2 : ltB y z = true) : ltB x z = true := less_trans _ _ _ h h2
/-- One row of levels is ahead. -/
def lessL : List ByteArray → List ByteArray → Bool
  | _, [] => false
  | [], _ :: _ => true
  | x :: xs, y :: ys => if x = y then lessL xs ys else ltB x y
def lessB (a b : ByteArray) : Bool := lessL (lv a) (lv b)
theorem lessL_irrefl : ∀ l, lessL l l = false
  | [] => rfl
  | x :: l => by simp [lessL, lessL_irrefl l]
theorem lessL_asymm : ∀ l m, lessL l m = true → lessL m l = false
  | [], [], h => by simp [lessL] at h
  | [], _ :: _, _ => rfl
  | _ :: _, [], h => by simp [lessL] at h
  | x :: l, y :: m, h => by
    unfold lessL at h ⊢
    by_cases e : x = y
    · rw [if_pos e] at h
      rw [if_pos e.symm]
      exact lessL_asymm l m h
    · rw [if_neg e] at h
      rw [if_neg (fun g => e g.symm)]
      exact ltB_asymm h
theorem lessL_total : ∀ l m, l ≠ m → lessL l m = true ∨ lessL m l = true
  | [], [], h => absurd rfl h
  | [], _ :: _, _ => .inl rfl
  | _ :: _, [], _ => .inr rfl
  | x :: l, y :: m, h => by
    unfold lessL
    by_cases e : x = y
    · subst e
      rw [if_pos rfl, if_pos rfl]
      exact lessL_total l m (fun g => h (by rw [g]))
    · rw [if_neg e, if_neg (fun g => e g.symm)]
      exact ltB_total e
theorem lessL_trans : ∀ l m k, lessL l m = true → lessL m k = true → lessL l k = true
  | _, [], _, h, _ => by simp [lessL] at h
  | _, _ :: _, [], _, h => by simp [lessL] at h
  | [], _ :: _, _ :: _, _, _ => rfl
  | x :: l, y :: m, z :: k, h1, h2 => by
    unfold lessL at h1 h2 ⊢
    by_cases e1 : x = y
    · subst e1
      rw [if_pos rfl] at h1
      by_cases e2 : x = z
      · rw [if_pos e2] at h2 ⊢
        exact lessL_trans l m k h1 h2
      · rw [if_neg e2] at h2 ⊢
        exact h2
    · rw [if_neg e1] at h1
      by_cases e2 : y = z
      · subst e2
        rw [if_neg e1]
        exact h1
      · rw [if_neg e2] at h2
        have h3 := ltB_trans h1 h2
        rw [if_neg (fun e => by subst e; rw [ltB_irrefl] at h3; cases h3)]
        exact h3
/-- Compare of two texts, and of two rows. -/
def cmpB (x y : ByteArray) : Int := if ltB x y = true then -1 else if x = y then 0 else 1
def cmpL : List ByteArray → List ByteArray → Int
  | [], [] => 0
  | [], _ :: _ => -1
  | _ :: _, [] => 1
  | x :: xs, y :: ys => if cmpB x y = 0 then cmpL xs ys else cmpB x y
theorem cmpB_zero {x y : ByteArray} : cmpB x y = 0 ↔ x = y := by
  unfold cmpB
  by_cases h : ltB x y = true
  · rw [if_pos h]
    constructor
    · intro e; omega
    · rintro rfl; rw [ltB_irrefl] at h; cases h
  · rw [if_neg h]
    by_cases e : x = y
    · simp [e]
    · simp [e]
theorem cmpB_neg {x y : ByteArray} : cmpB x y < 0 ↔ ltB x y = true := by
  unfold cmpB
  by_cases h : ltB x y = true
  · simp [h]
  · rw [if_neg h]
    constructor
    · intro g; split at g <;> omega
    · intro g; exact absurd g h
theorem cmpL_less : ∀ l m, cmpL l m < 0 ↔ lessL l m = true
  | [], [] => by simp [cmpL, lessL]
  | [], _ :: _ => by simp [cmpL, lessL]
  | _ :: _, [] => by simp [cmpL, lessL]
  | x :: l, y :: m => by
    unfold cmpL lessL
    by_cases e : x = y
    · rw [if_pos (cmpB_zero.2 e), if_pos e]
      exact cmpL_less l m
    · rw [if_neg (fun g => e (cmpB_zero.1 g)), if_neg e]
      exact cmpB_neg
theorem nan_walk (x : ByteArray) (w : World) : Calls Tryd.prog 45 #[.string x] w fun e w' => e = .returned (.bool false) ∧ w = w' := by
  go_enter Tryd.func45, Tryd.ntmps45
  go_wp2
  go_returns
  exact ⟨rfl, rfl⟩
theorem cmp_walk (x y : ByteArray) (w : World) : Calls Tryd.prog 41 #[.string x, .string y] w fun e w' => e = .returned (.int .i64 (cmpB x y)) ∧ w = w' := by
  have hxy := toList_beq x y
  by_cases h : ltB x y = true
  · rw [show cmpB x y = -1 from if_pos h]
    have h1 : Op.bytesLess x.toList y.toList = true := by rw [Lib.toList_data, Lib.toList_data]; exact h
    clear hxy h
    go_enter Tryd.func41, Tryd.ntmps41
    go_wp2_with (go_at_call 45; (with_reducible refine (nan_walk _ _).mono ?_); rintro e w3 ⟨rfl, rfl⟩)
    go_returns
    exact ⟨rfl, rfl⟩
  · have h1 : Op.bytesLess x.toList y.toList = false := by rw [Lib.toList_data, Lib.toList_data]; simpa [ltB] using h
    by_cases e : x = y
    · have e2 : cmpB x y = 0 := cmpB_zero.2 e
      rw [e2]
      replace hxy : (x.toList == y.toList) = true := by rw [hxy]; simpa using e
      clear e h e2
      go_enter Tryd.func41, Tryd.ntmps41
      go_wp2_with (go_at_call 45; (with_reducible refine (nan_walk _ _).mono ?_); rintro e w3 ⟨rfl, rfl⟩)
      go_returns
      exact ⟨rfl, rfl⟩
    · have e2 : cmpB x y = 1 := by unfold cmpB; rw [if_neg h, if_neg e]
      rw [e2]
      replace hxy : (x.toList == y.toList) = false := by rw [hxy]; simpa using e
      clear e h e2
      go_enter Tryd.func41, Tryd.ntmps41
      go_wp2_with (go_at_call 45; (with_reducible refine (nan_walk _ _).mono ?_); rintro e w3 ⟨rfl, rfl⟩)
      go_returns
      exact ⟨rfl, rfl⟩
theorem cmpL_drop {l m : List ByteArray} {j : Nat} (hl : j < l.length) (hm : j < m.length) : cmpL (l.drop j) (m.drop j) = if cmpB (l[j]'hl) (m[j]'hm) = 0 then cmpL (l.drop (j + 1)) (m.drop (j + 1)) else cmpB (l[j]'hl) (m[j]'hm) := by
  rw [List.drop_eq_getElem_cons hl, List.drop_eq_getElem_cons hm]
  rfl
set_option maxHeartbeats 2000000 in
theorem compare_walk {w : World} {o1 o2 : Option Addr} {l m : List ByteArray} (h1 : SRow w o1 l) (h2 : SRow w o2 m) (k1 k2 : Nat) (hl : l.length ≤ 1000000) (hm : m.length ≤ 1000000) :
    Calls Tryd.prog 33 #[.slice o1 l.length k1, .slice o2 m.length k2] w fun e w' => e = .returned (.int .i64 (cmpL l m)) ∧ w = w' := by
  go_enter Tryd.func33, Tryd.ntmps33
  go_wp2
  go_loopw [11] (fun v11 wr => ∃ j : Nat, v11 = .int .i64 j ∧ j ≤ l.length ∧ j ≤ m.length ∧ w = wr ∧ cmpL l m = cmpL (l.drop j) (m.drop j)) (fun i _ => l.length - (intOf i).toNat)
  case atStart => exact ⟨0, rfl, Nat.zero_le _, Nat.zero_le _, rfl, rfl⟩
  case round =>
    obtain ⟨j, rfl, hj, hjm, rfl, hc⟩ := hrel
    replace hc := Lib.hid hc
    by_cases hlt : j < l.length
    · obtain ⟨a, rfl, ha, _⟩ := h1 j hlt
      by_cases hmt : j < m.length
      · obtain ⟨b, rfl, hb, _⟩ := h2 j hmt
        have hd := cmpL_drop hlt hmt
        have hcw := fun w => cmp_walk (l[j]'hlt) (m[j]'hmt) w
        generalize l[j]'hlt = x at ha hcw hd
        generalize m[j]'hmt = y at hb hcw hd
        have g1 : ¬ (m.length : Int) ≤ j := by omega
        have g2 : (j : Int) < m.length := by omega
        by_cases h0 : cmpB x y = 0
        · rw [if_pos h0] at hd
          rw [h0] at hcw
          replace hd := Lib.hid hd
          clear h0
          go_wp2_with (go_at_call 41; (with_reducible refine (hcw _).mono ?_); rintro e w3 ⟨rfl, rfl⟩)
          go_roundw
          case rel => exact ⟨j + 1, by go_num, by omega, by omega, trivial, by rw [hc.out, hd.out]⟩
          case measure => simp [intOf]; omega
        · rw [if_neg h0] at hd
          replace hd := Lib.hid hd
          have h0b : (cmpB x y == 0) = false := by simpa using h0
          clear h1 h2
          go_wp2_with (go_at_call 41; (with_reducible refine (hcw _).mono ?_); rintro e w3 ⟨rfl, rfl⟩)
          go_returns
          exact ⟨by rw [hc.out, hd.out]; rfl, rfl⟩
      · have hjl : (m.length : Int) ≤ j := by omega
        have hq : cmpL (l.drop j) (m.drop j) = 1 := by
          rw [List.drop_eq_getElem_cons hlt, show m.drop j = [] from List.drop_eq_nil_of_le (by omega)]
          rfl
        replace hq := Lib.hid hq
        generalize l[j]'hlt = x at ha
        clear h1 h2
        go_wp2
        go_returns
        exact ⟨by rw [hc.out, hq.out]; rfl, rfl⟩
    · have hjl : j = l.length := by omega
      have hn : l.drop j = [] := List.drop_eq_nil_of_le (by omega)
      by_cases hmt : l.length < m.length
      · have hq : cmpL (l.drop j) (m.drop j) = -1 := by
          rw [hn, List.drop_eq_getElem_cons (by omega : j < m.length)]
          rfl
        replace hq := Lib.hid hq
        have g1 : (l.length : Int) < m.length := by omega
        clear h1 h2 hn hjl
        go_wp2
        go_returns
        exact ⟨by rw [hc.out, hq.out]; rfl, rfl⟩
      · have hq : cmpL (l.drop j) (m.drop j) = 0 := by
          rw [hn, List.drop_eq_nil_of_le (by omega)]
          rfl
        replace hq := Lib.hid hq
        have g1 : ¬ (l.length : Int) < m.length := by omega
        clear h1 h2 hn hjl
        go_wp2
        go_returns
        exact ⟨by rw [hc.out, hq.out]; rfl, rfl⟩
set_option maxHeartbeats 1000000 in
theorem less_walk (s t : ByteArray) (hs : s.size ≤ 900000) (ht : t.size ≤ 900000) (w : World) : Calls Tryd.prog 18 #[.string s, .string t] w fun e w' => e = .returned (.bool (lessB s t)) ∧ Below w.heap.size w w' := by
  have hl1 := fun w => levels_calls s (by omega) w
  have hl2 := fun w => levels_calls t (by omega) w
  have hn1 := lv_len s
  have hn2 := lv_len t
  unfold lessB
  generalize lv s = f at *
  generalize lv t = g at *
  have hq : decide (cmpL f g < 0) = lessL f g := by rw [Bool.eq_iff_iff, decide_eq_true_eq]; exact cmpL_less f g
  have hcc := fun (w : World) (o1 o2 : Option Addr) (k1 k2 : Nat) (h1 : SRow w o1 f) (h2 : SRow w o2 g) => compare_walk h1 h2 k1 k2 (by omega) (by omega)
  rw [← hq]
  clear hq
  generalize cmpL f g = c at *
  go_enter Tryd.func18, Tryd.ntmps18
  go_wp2_with (first
    | (go_at_call 16; (with_reducible refine (hl1 _).mono ?_); rintro e w4 ⟨o1, k1, rfl, hr1, hb4⟩
       clear hl1)
    | (go_at_call 16; (with_reducible refine (hl2 _).mono ?_); rintro e w5 ⟨o2, k2, rfl, hr2, hb⟩
       have hb5 := hb4.trans (hb.mono hb4.size)
       have hr1 := hr1.below hb
       have hcd := hcc _ _ _ k1 k2 hr1 hr2
       clear hb hl2)
    | (go_at_call 33; (with_reducible refine hcd.mono ?_); rintro e w6 ⟨rfl, rfl⟩))
  go_returns
  exact ⟨rfl, hb5⟩
end Go.Proofs.YtfakimleoihfgaaDoor.TW
