import Derived.Test.YtkiepnmbimkadaaKRecovers8
namespace Go.Proofs.Ytkiepnmbimkadaa.DK
open Go.RowKit Go.Proofs.Ytkiepnmbimkadaa
def Wr.row (x : Wr) : List Value := [.int .i64 x.file, .string x.s, .bool x.whole]
def rowsOf : List Wr → List Value
  | [] => []
  | x :: l => x.row ++ rowsOf l
theorem rowsOf_append : ∀ l m : List Wr, rowsOf (l ++ m) = rowsOf l ++ rowsOf m
  | [], _ => rfl
  | x :: l, m => by
    show x.row ++ rowsOf (l ++ m) = x.row ++ rowsOf l ++ rowsOf m
    rw [rowsOf_append l m, List.append_assoc]
theorem rowsOf_at : ∀ (l : List Wr) (j : Nat) (hj : j < l.length) (c : Nat), c < 3 → (rowsOf l)[j * 3 + c]? = (l[j]'hj).row[c]?
  | [], j, hj, _, _ => absurd hj (by simp)
  | x :: l, 0, _, c, hc => by
    show (x.row ++ rowsOf l)[0 * 3 + c]? = _
    rw [List.getElem?_append_left (by show 0 * 3 + c < 3; omega), show 0 * 3 + c = c by omega]
    rfl
  | x :: l, j + 1, hj, c, hc => by
    show (x.row ++ rowsOf l)[(j + 1) * 3 + c]? = _
    rw [List.getElem?_append_right (by show 3 ≤ (j + 1) * 3 + c; omega)]
    have e : (j + 1) * 3 + c - x.row.length = j * 3 + c := by
      show (j + 1) * 3 + c - 3 = _
      omega
    rw [e]
    exact rowsOf_at l j (by simpa using hj) c hc
def rcells (r : Four) (V : Value) : Array Value := #[.string r.a, .string r.b, .string r.c, .string r.d, V]
structure RAt (w : World) (B : Nat) (V : Value) (k : Four) (l : List Wr) : Prop where
  cells : w.heap[B]? = some (.cells (rcells k V) 51 (0, 0))
  row : w.ownsRow 0 88 3 V l.length (rowsOf l)
  apart : V.ownBlock ≠ some B
theorem RAt.lt {w : World} {B : Nat} {V : Value} {k : Four} {l : List Wr} (h : RAt w B V k l) : B < w.heap.size := (Array.getElem?_eq_some_iff.1 h.cells).1
theorem RAt.cell {w : World} {B : Nat} {V : Value} {k : Four} {l : List Wr} (h : RAt w B V k l) (j : Nat) : w.cell? ⟨B, j, none⟩ = (rcells k V)[j]? := cell_of h.cells j
theorem RAt.frozen {w : World} {B : Nat} {V : Value} {k : Four} {l : List Wr} (h : RAt w B V k l) (j : Nat) : w.frozen? ⟨B, j, none⟩ = false := by
  simp [World.frozen?, h.cells]
theorem RAt.below {w w2 : World} {B : Nat} {V : Value} {k : Four} {l : List Wr} (h : RAt w B V k l) (hb : Below w.heap.size w w2) : RAt w2 B V k l :=
  ⟨(hb.block B h.lt).trans h.cells, h.row.kept (row := none) ⟨hb.os, hb.tape, hb.output, hb.size, fun k hk _ => hb.block k hk⟩ (by
    cases hV : V.ownBlock with
    | none => exact .inl rfl
    | some b => exact .inr (by simp)), h.apart⟩
theorem RAt.drew {w : World} {B : Nat} {V : Value} {k : Four} {l : List Wr} (h : RAt w B V k l) : RAt w.drew B V k l := ⟨h.cells, h.row, h.apart⟩
theorem RAt.alloc {w : World} {B : Nat} {V : Value} {k : Four} {l : List Wr} (h : RAt w B V k l) (o : Obj) : RAt (w.alloc o) B V k l := h.below ((Below.refl _ _).alloc (Nat.le_refl _) o)
theorem RAt.wr {w : World} {B : Nat} {V : Value} {k : Four} {l : List Wr} (h : RAt w B V k l) : V = .slice none 0 0 ∧ l = [] ∨ ∃ g cap, V = .slice (some ⟨g, 0, none⟩) l.length cap ∧ g < w.heap.size ∧
    ∀ (j : Nat) (hj : j < l.length), w.cell? ⟨g, j * 3, none⟩ = some (.int .i64 (l[j]'hj).file) ∧ w.cell? ⟨g, j * 3 + 1, none⟩ = some (.string (l[j]'hj).s) ∧ w.cell? ⟨g, j * 3 + 2, none⟩ = some (.bool (l[j]'hj).whole) := by
  rcases h.row.2 with ⟨e, h0⟩ | ⟨g, cap, cur, e, _, hg, _, _, _, _⟩
  · exact .inl ⟨e, List.eq_nil_of_length_eq_zero h0⟩
  · refine .inr ⟨g, cap, e, (Array.getElem?_eq_some_iff.1 hg).1, fun j hj => ?_⟩
    have h2 := h.row
    rw [e] at h2
    exact ⟨(h2.cellAt (j * 3) (by omega)).trans (rowsOf_at l j hj 0 (by omega)), (h2.cellAt (j * 3 + 1) (by omega)).trans (rowsOf_at l j hj 1 (by omega)), (h2.cellAt (j * 3 + 2) (by omega)).trans (rowsOf_at l j hj 2 (by omega))⟩
end Go.Proofs.Ytkiepnmbimkadaa.DK
