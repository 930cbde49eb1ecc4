/-
  Chapter 03: Same; the fixed calls of the law.
-/
import Derived.Test.YtfakimleoihfgaaDoorTopLess
import Derived.Test.YtfakimleoihfgaaDoorTopMeet

namespace Go.Proofs.YtfakimleoihfgaaDoor.TW
open Go Go.RowKit Go.Proofs.YtfakimleoihfgaaDoor Go.Proofs.YtfakimleoihfgaaDoor.TP

set_option maxHeartbeats 2000000 in
theorem same_walk {w : World} {o1 o2 : Option Addr} {k1 k2 n : Nat} {l : List ByteArray} (hn : l.length = n) (h1 : SRow w o1 l) (h2 : SRow w o2 l) (hl : n ≤ 1000000) :
    Calls Tryd.prog 15 #[.slice o1 n k1, .slice o2 n k2] w fun e w' => e = .returned (.bool true) ∧ Below w.heap.size w w' := by
  subst hn
  go_enter Tryd.func15, Tryd.ntmps15
  go_wp2
  go_loopw [5] (fun v5 wr => ∃ j : Nat, v5 = .int .i64 j ∧ j ≤ l.length ∧ Below w.heap.size w wr) (fun i _ => l.length - (intOf i).toNat)
  case atStart => exact ⟨0, rfl, Nat.zero_le _, Below.refl _ _⟩
  case round =>
    obtain ⟨j, rfl, hj, hb⟩ := hrel
    by_cases hlt : j < l.length
    · obtain ⟨a, rfl, ha, hla⟩ := (h1.below hb) j hlt
      obtain ⟨b, rfl, hc, hlb⟩ := (h2.below hb) j hlt
      generalize l[j]'hlt = x at *
      clear h1 h2
      have hbd := hb.drew
      go_wp2
      go_region
      go_wp2
      go_roundw
      case rel => exact ⟨j + 1, by go_num, by omega, hbd⟩
      case measure => simp [intOf]; omega
    · go_wp2
      go_returns
      exact ⟨rfl, hb⟩
theorem lit_row {w : World} {g : Nat} {l : List ByteArray} (h : w.heap[g]? = some (.cells (l.map Value.string).toArray 9 (0, 0))) : SRow w (some ⟨g, 0, none⟩) l := fun j hj => by
  refine ⟨_, rfl, ?_, (Array.getElem?_eq_some_iff.1 h).1⟩
  rw [add0]
  simp [World.cell?, h, hj]
theorem right_at (s : ByteArray) (b : Bool) (h : rightB s = b) (hs : s.size ≤ 900000) (w : World) : Calls Tryd.prog 11 #[.string s] w fun e w' => e = .returned (.bool b) ∧ Below w.heap.size w w' := by subst h; exact right_walk s hs w
theorem filter_at (s : ByteArray) (b : Bool) (h : filterB s = b) (hs : s.size ≤ 900000) (w : World) : Calls Tryd.prog 13 #[.string s] w fun e w' => e = .returned (.bool b) ∧ Below w.heap.size w w' := by subst h; exact filter_walk s hs w
theorem match_at (s t : ByteArray) (b : Bool) (h : matchB s t = b) (hs : s.size ≤ 900000) (ht : t.size ≤ 900000) (w : World) : Calls Tryd.prog 21 #[.string s, .string t] w fun e w' => e = .returned (.bool b) ∧ Below w.heap.size w w' := by subst h; exact match_walk s t hs ht w
theorem covers_at (s t : ByteArray) (b : Bool) (h : covB s t = b) (hs : s.size ≤ 900000) (ht : t.size ≤ 900000) (w : World) : Calls Tryd.prog 23 #[.string s, .string t] w fun e w' => e = .returned (.bool b) ∧ Below w.heap.size w w' := by subst h; exact coversB_walk s t hs ht w
theorem meet_at (s t : ByteArray) (b : Bool) (h : mtB s t = b) (hs : s.size ≤ 900000) (ht : t.size ≤ 900000) (w : World) : Calls Tryd.prog 25 #[.string s, .string t] w fun e w' => e = .returned (.bool b) ∧ Below w.heap.size w w' := by subst h; exact meetB_walk s t hs ht w
theorem less_at (s t : ByteArray) (b : Bool) (h : lessB s t = b) (hs : s.size ≤ 900000) (ht : t.size ≤ 900000) (w : World) : Calls Tryd.prog 18 #[.string s, .string t] w fun e w' => e = .returned (.bool b) ∧ Below w.heap.size w w' := by subst h; exact less_walk s t hs ht w
theorem levels_at (s : ByteArray) (l : List ByteArray) (n : Nat) (h : lv s = l) (hn : l.length = n) (hs : s.size ≤ 900000) (w : World) :
    Calls Tryd.prog 16 #[.string s] w fun e w' => ∃ o k, e = .returned (.slice o n k) ∧ SRow w' o l ∧ Below w.heap.size w w' := by subst h; subst hn; exact levels_calls s (by omega) w

theorem fx1 : rightB ⟨#[97, 47, 98, 45, 49, 47, 95]⟩ = true := by decide
theorem fx2 : rightB ⟨#[]⟩ = false := by decide
theorem fx3 : rightB ⟨#[97, 47, 47, 98]⟩ = false := by decide
theorem fx4 : rightB ⟨#[97, 47, 43]⟩ = false := by decide
theorem fx5 : filterB ⟨#[97, 47, 43, 47, 35]⟩ = true := by decide
theorem fx6 : filterB ⟨#[35, 47, 97]⟩ = false := by decide
theorem fx7 : filterB ⟨#[97, 43]⟩ = false := by decide
theorem fx8 : matchB ⟨#[97, 47, 43, 47, 99]⟩ ⟨#[97, 47, 98, 47, 99]⟩ = true := by decide
theorem fx9 : matchB ⟨#[97, 47, 35]⟩ ⟨#[97]⟩ = true := by decide
theorem fx10 : matchB ⟨#[35]⟩ ⟨#[97, 47, 98]⟩ = true := by decide
theorem fx11 : matchB ⟨#[97, 47, 43]⟩ ⟨#[97]⟩ = false := by decide
theorem fx12 : matchB ⟨#[97]⟩ ⟨#[97, 47, 98]⟩ = false := by decide
theorem fx13 : covB ⟨#[97, 47, 35]⟩ ⟨#[97, 47, 43]⟩ = true := by decide
theorem fx14 : covB ⟨#[35]⟩ ⟨#[43]⟩ = true := by decide
theorem fx15 : covB ⟨#[43]⟩ ⟨#[35]⟩ = false := by decide
theorem fx16 : covB ⟨#[43, 47, 35]⟩ ⟨#[35]⟩ = true := by decide
theorem fx17 : covB ⟨#[97, 47, 43, 47, 35]⟩ ⟨#[97, 47, 35]⟩ = false := by decide
theorem fx18 : mtB ⟨#[97, 47, 43]⟩ ⟨#[43, 47, 98]⟩ = true := by decide
theorem fx19 : mtB ⟨#[97, 47, 43]⟩ ⟨#[98, 47, 35]⟩ = false := by decide
theorem fx20 : mtB ⟨#[97]⟩ ⟨#[97, 47, 35]⟩ = true := by decide
theorem fx21 : lessB ⟨#[97]⟩ ⟨#[97, 47, 98]⟩ = true := by decide
theorem fx22 : lessB ⟨#[97, 47, 98]⟩ ⟨#[97, 98]⟩ = true := by decide
theorem fl1 : lv ⟨#[97, 47, 47]⟩ = [⟨#[97]⟩, ⟨#[]⟩, ⟨#[]⟩] := by decide
theorem fl2 : lv ⟨#[]⟩ = [⟨#[]⟩] := by decide
set_option maxHeartbeats 8000000 in
set_option maxRecDepth 100000 in
theorem fixed_walk (w : World) : Calls Tryd.prog 20 #[] w fun e w' => e = .returned (.bool true) ∧ Below w.heap.size w w' := by
  have HB := Below.refl w.heap.size w
  go_enter Tryd.func20, Tryd.ntmps20
  go_wp2_with (first
    | (go_at_call 11; (with_reducible refine (right_at ⟨#[97, 47, 98, 45, 49, 47, 95]⟩ true fx1 (by decide) _).mono ?_); rintro e w1_ ⟨rfl, hb_⟩; have n0 := HB.trans (hb_.mono HB.size); clear HB hb_; have HB := n0; clear n0)
    | (go_at_call 11; (with_reducible refine (right_at ⟨#[]⟩ false fx2 (by decide) _).mono ?_); rintro e w1_ ⟨rfl, hb_⟩; have n0 := HB.trans (hb_.mono HB.size); clear HB hb_; have HB := n0; clear n0)
    | (go_at_call 11; (with_reducible refine (right_at ⟨#[97, 47, 47, 98]⟩ false fx3 (by decide) _).mono ?_); rintro e w1_ ⟨rfl, hb_⟩; have n0 := HB.trans (hb_.mono HB.size); clear HB hb_; have HB := n0; clear n0)
    | (go_at_call 11; (with_reducible refine (right_at ⟨#[97, 47, 43]⟩ false fx4 (by decide) _).mono ?_); rintro e w1_ ⟨rfl, hb_⟩; have n0 := HB.trans (hb_.mono HB.size); clear HB hb_; have HB := n0; clear n0)
    | (go_at_call 13; (with_reducible refine (filter_at ⟨#[97, 47, 43, 47, 35]⟩ true fx5 (by decide) _).mono ?_); rintro e w1_ ⟨rfl, hb_⟩; have n0 := HB.trans (hb_.mono HB.size); clear HB hb_; have HB := n0; clear n0)
    | (go_at_call 13; (with_reducible refine (filter_at ⟨#[35, 47, 97]⟩ false fx6 (by decide) _).mono ?_); rintro e w1_ ⟨rfl, hb_⟩; have n0 := HB.trans (hb_.mono HB.size); clear HB hb_; have HB := n0; clear n0)
    | (go_at_call 13; (with_reducible refine (filter_at ⟨#[97, 43]⟩ false fx7 (by decide) _).mono ?_); rintro e w1_ ⟨rfl, hb_⟩; have n0 := HB.trans (hb_.mono HB.size); clear HB hb_; have HB := n0; clear n0)
    | (go_at_call 21; (with_reducible refine (match_at ⟨#[97, 47, 43, 47, 99]⟩ ⟨#[97, 47, 98, 47, 99]⟩ true fx8 (by decide) (by decide) _).mono ?_); rintro e w1_ ⟨rfl, hb_⟩; have n0 := HB.trans (hb_.mono HB.size); clear HB hb_; have HB := n0; clear n0)
    | (go_at_call 21; (with_reducible refine (match_at ⟨#[97, 47, 35]⟩ ⟨#[97]⟩ true fx9 (by decide) (by decide) _).mono ?_); rintro e w1_ ⟨rfl, hb_⟩; have n0 := HB.trans (hb_.mono HB.size); clear HB hb_; have HB := n0; clear n0)
    | (go_at_call 21; (with_reducible refine (match_at ⟨#[35]⟩ ⟨#[97, 47, 98]⟩ true fx10 (by decide) (by decide) _).mono ?_); rintro e w1_ ⟨rfl, hb_⟩; have n0 := HB.trans (hb_.mono HB.size); clear HB hb_; have HB := n0; clear n0)
    | (go_at_call 21; (with_reducible refine (match_at ⟨#[97, 47, 43]⟩ ⟨#[97]⟩ false fx11 (by decide) (by decide) _).mono ?_); rintro e w1_ ⟨rfl, hb_⟩; have n0 := HB.trans (hb_.mono HB.size); clear HB hb_; have HB := n0; clear n0)
    | (go_at_call 21; (with_reducible refine (match_at ⟨#[97]⟩ ⟨#[97, 47, 98]⟩ false fx12 (by decide) (by decide) _).mono ?_); rintro e w1_ ⟨rfl, hb_⟩; have n0 := HB.trans (hb_.mono HB.size); clear HB hb_; have HB := n0; clear n0)
    | (go_at_call 23; (with_reducible refine (covers_at ⟨#[97, 47, 35]⟩ ⟨#[97, 47, 43]⟩ true fx13 (by decide) (by decide) _).mono ?_); rintro e w1_ ⟨rfl, hb_⟩; have n0 := HB.trans (hb_.mono HB.size); clear HB hb_; have HB := n0; clear n0)
    | (go_at_call 23; (with_reducible refine (covers_at ⟨#[35]⟩ ⟨#[43]⟩ true fx14 (by decide) (by decide) _).mono ?_); rintro e w1_ ⟨rfl, hb_⟩; have n0 := HB.trans (hb_.mono HB.size); clear HB hb_; have HB := n0; clear n0)
    | (go_at_call 23; (with_reducible refine (covers_at ⟨#[43]⟩ ⟨#[35]⟩ false fx15 (by decide) (by decide) _).mono ?_); rintro e w1_ ⟨rfl, hb_⟩; have n0 := HB.trans (hb_.mono HB.size); clear HB hb_; have HB := n0; clear n0)
    | (go_at_call 23; (with_reducible refine (covers_at ⟨#[43, 47, 35]⟩ ⟨#[35]⟩ true fx16 (by decide) (by decide) _).mono ?_); rintro e w1_ ⟨rfl, hb_⟩; have n0 := HB.trans (hb_.mono HB.size); clear HB hb_; have HB := n0; clear n0)
    | (go_at_call 23; (with_reducible refine (covers_at ⟨#[97, 47, 43, 47, 35]⟩ ⟨#[97, 47, 35]⟩ false fx17 (by decide) (by decide) _).mono ?_); rintro e w1_ ⟨rfl, hb_⟩; have n0 := HB.trans (hb_.mono HB.size); clear HB hb_; have HB := n0; clear n0)
    | (go_at_call 25; (with_reducible refine (meet_at ⟨#[97, 47, 43]⟩ ⟨#[43, 47, 98]⟩ true fx18 (by decide) (by decide) _).mono ?_); rintro e w1_ ⟨rfl, hb_⟩; have n0 := HB.trans (hb_.mono HB.size); clear HB hb_; have HB := n0; clear n0)
    | (go_at_call 25; (with_reducible refine (meet_at ⟨#[97, 47, 43]⟩ ⟨#[98, 47, 35]⟩ false fx19 (by decide) (by decide) _).mono ?_); rintro e w1_ ⟨rfl, hb_⟩; have n0 := HB.trans (hb_.mono HB.size); clear HB hb_; have HB := n0; clear n0)
    | (go_at_call 25; (with_reducible refine (meet_at ⟨#[97]⟩ ⟨#[97, 47, 35]⟩ true fx20 (by decide) (by decide) _).mono ?_); rintro e w1_ ⟨rfl, hb_⟩; have n0 := HB.trans (hb_.mono HB.size); clear HB hb_; have HB := n0; clear n0)
    | (go_at_call 18; (with_reducible refine (less_at ⟨#[97]⟩ ⟨#[97, 47, 98]⟩ true fx21 (by decide) (by decide) _).mono ?_); rintro e w1_ ⟨rfl, hb_⟩; have n0 := HB.trans (hb_.mono HB.size); clear HB hb_; have HB := n0; clear n0)
    | (go_at_call 18; (with_reducible refine (less_at ⟨#[97, 47, 98]⟩ ⟨#[97, 98]⟩ true fx22 (by decide) (by decide) _).mono ?_); rintro e w1_ ⟨rfl, hb_⟩; have n0 := HB.trans (hb_.mono HB.size); clear HB hb_; have HB := n0; clear n0)
    | (go_at_call 16; (with_reducible refine (levels_at ⟨#[97, 47, 47]⟩ [⟨#[97]⟩, ⟨#[]⟩, ⟨#[]⟩] 3 fl1 rfl (by decide) _).mono ?_); rintro e w2 ⟨o1, k1, rfl, hr1, hb_⟩; have n0 := HB.trans (hb_.mono HB.size); clear HB hb_; have HB := n0; clear n0; have sm1 := same_walk (k1 := k1) (k2 := 3) (n := 3) rfl (hr1.below ((Below.refl _ w2).alloc (Nat.le_refl _) _)) (lit_row (l := [⟨#[97]⟩, ⟨#[]⟩, ⟨#[]⟩]) (World.alloc_heap_new w2 _)) (by decide); simp only [List.map_cons, List.map_nil] at sm1; have HA := HB.alloc HB.size (.cells #[.string ⟨#[97]⟩, .string ⟨#[]⟩, .string ⟨#[]⟩] 9))
    | (go_at_call 15; (with_reducible refine sm1.mono ?_); rintro e w3 ⟨rfl, hb_⟩; have n0 := HA.trans (hb_.mono HA.size); clear HB hb_ sm1 HA hr1; have HB := n0; clear n0)
    | (go_at_call 16; (with_reducible refine (levels_at ⟨#[]⟩ [⟨#[]⟩] 1 fl2 rfl (by decide) _).mono ?_); rintro e w4 ⟨o2, k2, rfl, hr2, hb_⟩; have n0 := HB.trans (hb_.mono HB.size); clear HB hb_; have HB := n0; clear n0; have sm2 := same_walk (k1 := k2) (k2 := 1) (n := 1) rfl (hr2.below ((Below.refl _ w4).alloc (Nat.le_refl _) _)) (lit_row (l := [⟨#[]⟩]) (World.alloc_heap_new w4 _)) (by decide); simp only [List.map_cons, List.map_nil] at sm2; have HA := HB.alloc HB.size (.cells #[.string ⟨#[]⟩] 9))
    | (go_at_call 15; (with_reducible refine sm2.mono ?_); rintro e w5 ⟨rfl, hb_⟩; have n0 := HA.trans (hb_.mono HA.size); clear HB hb_; have HB := n0; clear n0))
  go_returns
  exact ⟨rfl, HB⟩
end Go.Proofs.YtfakimleoihfgaaDoor.TW
