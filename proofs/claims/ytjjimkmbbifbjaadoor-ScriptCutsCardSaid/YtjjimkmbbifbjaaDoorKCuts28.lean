import Derived.Test.YtjjimkmbbifbjaaDoorKCuts27
import Derived.Test.YtjjimkmbbifbjaaDoorKCuts12
import Derived.Test.YtjjimkmbbifbjaaDoorKCuts17
import Derived.Test.YtjjimkmbbifbjaaDoorKCuts15
namespace Go.Proofs.YtjjimkmbbifbjaaDoor
open Go Go.RowKit Go.Proofs.YtjjimkmbbifbjaaDoor.VP Go.Proofs.YtjjimkmbbifbjaaDoor.VF Go.Proofs.YtjjimkmbbifbjaaDoor.TP Go.Proofs.YtjjimkmbbifbjaaDoor.TF Go.Proofs.YtjjimkmbbifbjaaDoor.SP Go.Proofs.YtjjimkmbbifbjaaDoor.SW Go.Proofs.YtjjimkmbbifbjaaDoorW.PrintWords
theorem cell_block_lt {w : World} {a : Addr} {v : Value} (h : w.cell? a = some v) : a.block < w.heap.size := by
  unfold World.cell? at h
  rcases Nat.lt_or_ge a.block w.heap.size with g | g
  · exact g
  · rw [Array.getElem?_eq_none g] at h
    cases h
def script_Right.f (k n N K : Int) (s t : ByteArray) (b : Bool) (T : Int) : Option Bool := if s.size ≤ 900000 then some (rightA k n N K s t b T) else none
def script_Put.f (k n N K : Int) (s t : ByteArray) (b : Bool) (T : Int) : Option ByteArray := if s.size ≤ 900000 then some (putA k n N K s t b T) else none
def script_Get.f (s : ByteArray) (a : Int) : Option (Int × Int × Int × Int × ByteArray × ByteArray × Bool × Int × Int × Int) := if s.size ≤ 900000 then some (getA s a) else none
def script_Name.f (k : Int) : Option ByteArray := some (nameS k)
theorem script_Right.calls (k n N K : Int) (s t : ByteArray) (b : Bool) (T : Int) (r : Bool) (w : World) (h : script_Right.f k n N K s t b T = some r) :
    Calls Tryd.prog 11 #[.agg #[.int .i64 k, .int .i64 n, .int .i64 N, .int .i64 K, .string s, .string t, .bool b, .int .i64 T]] w fun e w' => e = .returned (.bool r) ∧ Below w.heap.size w w' := by
  obtain ⟨h1, rfl⟩ := of_if h
  exact right_walk k n N K s t b T h1 w
theorem script_Put.calls (k n N K : Int) (s t : ByteArray) (b : Bool) (T : Int) (r : ByteArray) (w : World) (h : script_Put.f k n N K s t b T = some r) :
    Calls Tryd.prog 15 #[.agg #[.int .i64 k, .int .i64 n, .int .i64 N, .int .i64 K, .string s, .string t, .bool b, .int .i64 T]] w fun e w' => e = .returned (.string r) ∧ Below w.heap.size w w' := by
  obtain ⟨h1, rfl⟩ := of_if h
  exact put_walk k n N K s t b T h1 w
theorem script_Get.calls (s : ByteArray) (a : Int) (r1 r2 r3 r4 : Int) (r5 r6 : ByteArray) (r7 : Bool) (r8 : Int) (r9 r10 : Int) (w : World) (h : script_Get.f s a = some (r1, r2, r3, r4, r5, r6, r7, r8, r9, r10)) :
    Calls Tryd.prog 22 #[.string s, .int .i64 a] w fun e w' => e = .returned (.tuple #[.agg #[.int .i64 r1, .int .i64 r2, .int .i64 r3, .int .i64 r4, .string r5, .string r6, .bool r7, .int .i64 r8], .int .i64 r9, .int .i64 r10]) ∧ Below w.heap.size w w' := by
  obtain ⟨h1, h2⟩ := of_if h
  have := get_walk s h1 a w
  rw [h2] at this
  exact this
theorem script_Name.calls (k : Int) (r : ByteArray) (w : World) (h : script_Name.f k = some r) :
    Calls Tryd.prog 17 #[.int .i64 k] w fun e w' => e = .returned (.string r) ∧ Below w.heap.size w w' := by
  cases h
  exact name_walk k w
theorem show_fix : showL [⟨4, 2, 0, 0, ⟨#[]⟩, ⟨#[]⟩, false, 0⟩, ⟨4, 2, 1, 0, ⟨#[]⟩, ⟨#[]⟩, false, 0⟩, ⟨0, 1, 3, 0, ⟨#[97, 47, 98]⟩, ⟨#[120, 121]⟩, false, 9⟩, ⟨3, 0, 1, 0, ⟨#[35]⟩, ⟨#[]⟩, true, 0⟩] = ⟨#[116, 105, 99, 107, 32, 50, 10, 112, 117, 98, 108, 105, 115, 104, 32, 49, 32, 51, 32, 57, 32, 97, 47, 98, 32, 50, 10, 97, 115, 107, 32, 48, 32, 49, 32, 111, 110, 32, 35, 10]⟩ := by
  decide +kernel
end Go.Proofs.YtjjimkmbbifbjaaDoor
