/-
  Chapter 03: the program's functions, in the form that the printed texts use.
-/
import Derived.Test.YtfakimleoihfgaaDoorTopFixed
import Derived.Test.YtfakimleoihfgaaDoorWWords
namespace Go.Proofs.YtfakimleoihfgaaDoor
open Go Go.RowKit Go.Proofs.YtfakimleoihfgaaDoor.TP Go.Proofs.YtfakimleoihfgaaDoor.TW Go.Proofs.YtfakimleoihfgaaDoorW.PrintWords

def topic_Right.f (s : ByteArray) : Option Bool := if s.size ≤ 900000 then some (rightB s) else none
def topic_Filter.f (s : ByteArray) : Option Bool := if s.size ≤ 900000 then some (filterB s) else none
def topic_Levels.f (s : ByteArray) : Option (List ByteArray) := if s.size ≤ 900000 then some (lv s) else none
def topic_Less.f (s t : ByteArray) : Option Bool := if s.size ≤ 900000 ∧ t.size ≤ 900000 then some (lessB s t) else none
def topic_Match.f (s t : ByteArray) : Option Bool := if s.size ≤ 900000 ∧ t.size ≤ 900000 then some (matchB s t) else none
def topic_Covers.f (s t : ByteArray) : Option Bool := if s.size ≤ 900000 ∧ t.size ≤ 900000 then some (covB s t) else none
def topic_Meet.f (s t : ByteArray) : Option Bool := if s.size ≤ 900000 ∧ t.size ≤ 900000 then some (mtB s t) else none
def rivuletlaw03_fixed.f : Option Bool := some true
theorem of_if {α : Type} {p : Prop} [Decidable p] {x y : α} (h : (if p then some x else none) = some y) : p ∧ x = y := by
  split at h
  · exact ⟨‹p›, Option.some.inj h⟩
  · cases h
theorem topic_Right.calls (s : ByteArray) (r : Bool) (w : World) (h : topic_Right.f s = some r) :
    Calls Tryd.prog 11 #[.string s] w fun e w' => e = .returned (.bool r) ∧ Below w.heap.size w w' := by
  obtain ⟨h1, rfl⟩ := of_if h
  exact right_walk s h1 w
theorem topic_Filter.calls (s : ByteArray) (r : Bool) (w : World) (h : topic_Filter.f s = some r) :
    Calls Tryd.prog 13 #[.string s] w fun e w' => e = .returned (.bool r) ∧ Below w.heap.size w w' := by
  obtain ⟨h1, rfl⟩ := of_if h
  exact filter_walk s h1 w
theorem topic_Levels.calls (s : ByteArray) (r : List ByteArray) (w : World) (h : topic_Levels.f s = some r) :
    Calls Tryd.prog 16 #[.string s] w fun e w' => ∃ v0_ : Value, e = .returned v0_ ∧ Kd.R Kd.string 9 w' w.heap.size (fun _ => True) v0_ r ∧ Below w.heap.size w w' := by
  obtain ⟨h1, rfl⟩ := of_if h
  refine (levels_walk s (by omega) w).mono ?_
  rintro e w2 ⟨o, k, rfl, hr, hb⟩
  exact ⟨_, rfl, Kd.R_of_own hr (fun _ _ => trivial), hb⟩
theorem topic_Less.calls (s t : ByteArray) (r : Bool) (w : World) (h : topic_Less.f s t = some r) :
    Calls Tryd.prog 18 #[.string s, .string t] w fun e w' => e = .returned (.bool r) ∧ Below w.heap.size w w' := by
  obtain ⟨⟨h1, h2⟩, rfl⟩ := of_if h
  exact less_walk s t h1 h2 w
theorem topic_Match.calls (s t : ByteArray) (r : Bool) (w : World) (h : topic_Match.f s t = some r) :
    Calls Tryd.prog 21 #[.string s, .string t] w fun e w' => e = .returned (.bool r) ∧ Below w.heap.size w w' := by
  obtain ⟨⟨h1, h2⟩, rfl⟩ := of_if h
  exact match_walk s t h1 h2 w
theorem topic_Covers.calls (s t : ByteArray) (r : Bool) (w : World) (h : topic_Covers.f s t = some r) :
    Calls Tryd.prog 23 #[.string s, .string t] w fun e w' => e = .returned (.bool r) ∧ Below w.heap.size w w' := by
  obtain ⟨⟨h1, h2⟩, rfl⟩ := of_if h
  exact coversB_walk s t h1 h2 w
theorem topic_Meet.calls (s t : ByteArray) (r : Bool) (w : World) (h : topic_Meet.f s t = some r) :
    Calls Tryd.prog 25 #[.string s, .string t] w fun e w' => e = .returned (.bool r) ∧ Below w.heap.size w w' := by
  obtain ⟨⟨h1, h2⟩, rfl⟩ := of_if h
  exact meetB_walk s t h1 h2 w
theorem rivuletlaw03_fixed.calls (r : Bool) (w : World) (h : rivuletlaw03_fixed.f = some r) :
    Calls Tryd.prog 20 #[] w fun e w' => e = .returned (.bool r) ∧ Below w.heap.size w w' := by
  obtain rfl := Option.some.inj h
  exact fixed_walk w
end Go.Proofs.YtfakimleoihfgaaDoor
