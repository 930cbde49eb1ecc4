import Derived.Test.YtjjimkmbbifbjaaDoorKCuts9
namespace Go.Proofs.YtjjimkmbbifbjaaDoor
open Go Go.RowKit Go.Proofs.YtjjimkmbbifbjaaDoor.SW
def script_has.f (k : Int) : Option Int := some (hasB k)
theorem script_has.calls (k : Int) (r : Int) (w : World) (h : script_has.f k = some r) :
    Calls Tryd.prog 27 #[.int .i64 k] w fun e w' => e = .returned (.int .i64 r) ∧ Below w.heap.size w w' := by
  cases h
  exact has_walk k w
def script_Bare.f (k n N K : Int) (s t : ByteArray) (b : Bool) (T : Int) : Option (Int × Int × Int × Int × ByteArray × ByteArray × Bool × Int) :=
  some (kI (hasB k) k, cI (hasB k) 0 n, cI (hasB k) 1 N, cI (hasB k) 2 K, cS (hasB k) 5 s, cS (hasB k) 6 t, cB (hasB k) 4 b, cI (hasB k) 3 T)
theorem script_Bare.calls (k n N K : Int) (s t : ByteArray) (b : Bool) (T : Int) (r1 r2 r3 r4 : Int) (r5 r6 : ByteArray) (r7 : Bool) (r8 : Int) (w : World) (h : script_Bare.f k n N K s t b T = some (r1, r2, r3, r4, r5, r6, r7, r8)) :
    Calls Tryd.prog 13 #[.agg #[.int .i64 k, .int .i64 n, .int .i64 N, .int .i64 K, .string s, .string t, .bool b, .int .i64 T]] w fun e w' => e = .returned (.agg #[.int .i64 r1, .int .i64 r2, .int .i64 r3, .int .i64 r4, .string r5, .string r6, .bool r7, .int .i64 r8]) ∧ Below w.heap.size w w' := by
  cases h
  exact bare_walk k n N K T s t b w
end Go.Proofs.YtjjimkmbbifbjaaDoor
