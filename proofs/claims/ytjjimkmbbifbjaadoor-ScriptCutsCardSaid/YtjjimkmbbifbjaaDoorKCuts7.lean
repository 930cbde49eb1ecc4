import Derived.Laws.Rows
import Derived.Test.YtjjimkmbbifbjaaDoorKCuts5
import Derived.Test.YtjjimkmbbifbjaaDoorKCuts6
namespace Go.Proofs.YtjjimkmbbifbjaaDoor.SW
open Go Go.RowKit Go.Proofs.YtjjimkmbbifbjaaDoor
def AC (w : World) (X : Nat) (k n N K : Int) (s t : ByteArray) (b : Bool) (T : Int) : Prop := w.heap[X]? = some (.cells #[.int .i64 k, .int .i64 n, .int .i64 N, .int .i64 K, .string s, .string t, .bool b, .int .i64 T] 23 (0, 0))
section
variable {w : World} {X : Nat} {k n N K : Int} {s t : ByteArray} {b : Bool} {T : Int}
theorem AC.lt (h : AC w X k n N K s t b T) : X < w.heap.size := (Array.getElem?_eq_some_iff.1 h).1
theorem AC.c0 (h : AC w X k n N K s t b T) : w.cell? ⟨X, 0, none⟩ = some (.int .i64 k) := by simp [World.cell?, show w.heap[X]? = _ from h]
theorem AC.c1 (h : AC w X k n N K s t b T) : w.cell? ⟨X, 1, none⟩ = some (.int .i64 n) := by simp [World.cell?, show w.heap[X]? = _ from h]
theorem AC.c2 (h : AC w X k n N K s t b T) : w.cell? ⟨X, 2, none⟩ = some (.int .i64 N) := by simp [World.cell?, show w.heap[X]? = _ from h]
theorem AC.c3 (h : AC w X k n N K s t b T) : w.cell? ⟨X, 3, none⟩ = some (.int .i64 K) := by simp [World.cell?, show w.heap[X]? = _ from h]
theorem AC.c4 (h : AC w X k n N K s t b T) : w.cell? ⟨X, 4, none⟩ = some (.string s) := by simp [World.cell?, show w.heap[X]? = _ from h]
theorem AC.c5 (h : AC w X k n N K s t b T) : w.cell? ⟨X, 5, none⟩ = some (.string t) := by simp [World.cell?, show w.heap[X]? = _ from h]
theorem AC.c6 (h : AC w X k n N K s t b T) : w.cell? ⟨X, 6, none⟩ = some (.bool b) := by simp [World.cell?, show w.heap[X]? = _ from h]
theorem AC.c7 (h : AC w X k n N K s t b T) : w.cell? ⟨X, 7, none⟩ = some (.int .i64 T) := by simp [World.cell?, show w.heap[X]? = _ from h]
theorem AC.fr (h : AC w X k n N K s t b T) (i : Nat) : w.frozen? ⟨X, i, none⟩ = false := by simp [World.frozen?, show w.heap[X]? = _ from h]
theorem AC.s0 (h : AC w X k n N K s t b T) (v : Int) : AC (w.setCell ⟨X, 0, none⟩ (.int .i64 v)) X v n N K s t b T := by
  unfold AC
  rw [heap_setCell_same _ _ _ _ _ _ h]
  rfl
theorem AC.s1 (h : AC w X k n N K s t b T) (v : Int) : AC (w.setCell ⟨X, 1, none⟩ (.int .i64 v)) X k v N K s t b T := by
  unfold AC
  rw [heap_setCell_same _ _ _ _ _ _ h]
  rfl
theorem AC.s2 (h : AC w X k n N K s t b T) (v : Int) : AC (w.setCell ⟨X, 2, none⟩ (.int .i64 v)) X k n v K s t b T := by
  unfold AC
  rw [heap_setCell_same _ _ _ _ _ _ h]
  rfl
theorem AC.s3 (h : AC w X k n N K s t b T) (v : Int) : AC (w.setCell ⟨X, 3, none⟩ (.int .i64 v)) X k n N v s t b T := by
  unfold AC
  rw [heap_setCell_same _ _ _ _ _ _ h]
  rfl
theorem AC.s4 (h : AC w X k n N K s t b T) (v : ByteArray) : AC (w.setCell ⟨X, 4, none⟩ (.string v)) X k n N K v t b T := by
  unfold AC
  rw [heap_setCell_same _ _ _ _ _ _ h]
  rfl
theorem AC.s5 (h : AC w X k n N K s t b T) (v : ByteArray) : AC (w.setCell ⟨X, 5, none⟩ (.string v)) X k n N K s v b T := by
  unfold AC
  rw [heap_setCell_same _ _ _ _ _ _ h]
  rfl
theorem AC.s6 (h : AC w X k n N K s t b T) (v : Bool) : AC (w.setCell ⟨X, 6, none⟩ (.bool v)) X k n N K s t v T := by
  unfold AC
  rw [heap_setCell_same _ _ _ _ _ _ h]
  rfl
theorem AC.s7 (h : AC w X k n N K s t b T) (v : Int) : AC (w.setCell ⟨X, 7, none⟩ (.int .i64 v)) X k n N K s t b v := by
  unfold AC
  rw [heap_setCell_same _ _ _ _ _ _ h]
  rfl
theorem AC.below {w2 : World} (h : AC w X k n N K s t b T) (hb : Below w.heap.size w w2) : AC w2 X k n N K s t b T := (hb.block X h.lt).trans h
theorem AC.alloc (h : AC w X k n N K s t b T) (o : Obj) : AC (w.alloc o) X k n N K s t b T := (Below.heap_alloc _ _ _ h.lt).trans h
theorem AC.new (w : World) (k n N K : Int) (s t : ByteArray) (b : Bool) (T : Int) : AC (w.alloc (.cells #[.int .i64 k, .int .i64 n, .int .i64 N, .int .i64 K, .string s, .string t, .bool b, .int .i64 T] 23)) w.heap.size k n N K s t b T := World.alloc_heap_new w _
end
end Go.Proofs.YtjjimkmbbifbjaaDoor.SW
