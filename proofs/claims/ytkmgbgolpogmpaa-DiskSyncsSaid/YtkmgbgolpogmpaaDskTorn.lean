/-
  Chapter 09: what a crash leaves of a file that is only appended to. Plain Lean.
-/
import Derived.Test.YtkmgbgolpogmpaaDskFixed
namespace Go.Proofs.Ytkmgbgolpogmpaa.DK
open Go.RowKit Go.Proofs.Ytkmgbgolpogmpaa

/-- All bytes, one behind the other. -/
def cat : List ByteArray → ByteArray
  | [] => ⟨#[]⟩
  | s :: l => s ++ cat l
/-- Appends to file 2. -/
def app2 (cs : List ByteArray) : List Wr := cs.map fun s => ⟨false, 2, s⟩
theorem extract_cat (s t : ByteArray) (n : Nat) : (s ++ t).extract 0 n = s.extract 0 (min n s.size) ++ t.extract 0 (n - min n s.size) := by
  apply ByteArray.ext
  apply Array.ext'
  simp only [ByteArray.data_extract, ByteArray.data_append, Array.toList_extract, Array.toList_append, List.extract_eq_take_drop, List.drop_zero, Nat.sub_zero]
  rw [List.take_append]
  by_cases h : n ≤ s.size
  · have h2 : s.data.toList.length = s.size := rfl
    rw [Nat.min_eq_left h, h2, Nat.sub_self, Nat.sub_eq_zero_of_le h]
  · rw [Nat.min_eq_right (by omega), List.take_of_length_le (l := s.data.toList) (by show s.size ≤ n; omega), List.take_of_length_le (l := s.data.toList) (by show s.size ≤ s.size; omega)]
    rfl
theorem stays_app2 : ∀ (cs : List ByteArray) (left : Nat) (a b c d : ByteArray), stays (app2 cs) left ⟨a, b, c, d⟩ = ⟨a, b, c ++ (cat cs).extract 0 left, d⟩
  | [], left, a, b, c, d => by
    show Four.mk a b c d = _
    have : (cat []).extract 0 left = ⟨#[]⟩ := by
      apply ByteArray.ext
      simp [cat]
    rw [this]
    congr 1
    apply ByteArray.ext
    simp
  | s :: cs, left, a, b, c, d => by
    show stays (⟨false, 2, s⟩ :: app2 cs) left ⟨a, b, c, d⟩ = _
    rw [stays_on (by simp)]
    show stays (app2 cs) (left - min left s.size) ⟨a, b, c ++ s.extract 0 (min left s.size), d⟩ = _
    rw [stays_app2 cs]
    congr 1
    show _ = c ++ (s ++ cat cs).extract 0 left
    rw [extract_cat, ByteArray.append_assoc]
theorem units_app2 : ∀ cs : List ByteArray, unitsOf (app2 cs) = (cat cs).size
  | [] => rfl
  | s :: cs => by
    show s.size + unitsOf (app2 cs) = (s ++ cat cs).size
    rw [units_app2 cs, ByteArray.size_append]
theorem cat_append : ∀ (cs : List ByteArray) (s : ByteArray), cat (cs ++ [s]) = cat cs ++ s
  | [], s => by
    apply ByteArray.ext
    simp [cat]
  | c :: cs, s => by
    show c ++ cat (cs ++ [s]) = c ++ cat cs ++ s
    rw [cat_append cs, ByteArray.append_assoc]
end Go.Proofs.Ytkmgbgolpogmpaa.DK
