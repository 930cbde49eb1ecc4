import Derived.Test.YtjjimkmbbifbjaaDoorKPuts26
namespace Go.Proofs.YtjjimkmbbifbjaaDoor.SP
open Go Go.RowKit Go.Proofs.YtjjimkmbbifbjaaDoor Go.Proofs.YtjjimkmbbifbjaaDoor.SW Go.Proofs.YtjjimkmbbifbjaaDoor.VP Go.Proofs.YtjjimkmbbifbjaaDoor.VF Go.Proofs.YtjjimkmbbifbjaaDoor.TP Go.Proofs.YtjjimkmbbifbjaaDoorW.PrintWords
def Seg (s : ByteArray) (p : Nat) (e : List Int) : Prop := e = ((bytesOf s).drop p).take e.length ∧ p + e.length ≤ s.size
theorem Seg.append {s : ByteArray} {p : Nat} {a b : List Int} (h : Seg s p a) (k : Seg s (p + a.length) b) : Seg s p (a ++ b) := by
  refine ⟨?_, by rw [List.length_append]; have := k.2; omega⟩
  have h1 := h.1
  have k1 := k.1
  rw [← List.drop_drop] at k1
  rw [List.length_append, List.take_add, ← h1, ← k1]
theorem Seg.nil {s : ByteArray} {p : Nat} (h : p ≤ s.size) : Seg s p [] := ⟨by simp, h⟩
theorem Seg.drop {s : ByteArray} {p : Nat} {a : List Int} (h : Seg s p a) : (bytesOf s).drop p = a ++ (bytesOf s).drop (p + a.length) := by
  have := List.take_append_drop a.length ((bytesOf s).drop p)
  rw [← h.1, List.drop_drop] at this
  exact this.symm
end Go.Proofs.YtjjimkmbbifbjaaDoor.SP
