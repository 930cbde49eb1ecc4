/-
  Chapter 02: the fixed calls answer as the document says: reckoned.
-/
import Derived.Test.YthincnfcekcdaaaPr3
namespace Go.Proofs.Ythincnfcekcdaaa.CF
open Go.RowKit Go.Proofs.Ythincnfcekcdaaa Go.Proofs.Ythincnfcekcdaaa.Pr Go.Proofs.YthincnfcekcdaaaW.PrintWords Go.Proofs.YthincnfcekcdaaaW.PrintLast Go.Proofs.YthincnfcekcdaaaW.PrintMore
theorem fixed60 : rivuletlaw02_fixed.f 60 = some true := by decide +kernel
theorem fixed_f {k : Nat} (hk : 60 ≤ k) : rivuletlaw02_fixed.f k = some true := at_rounds (g := fun k => rivuletlaw02_fixed.f k) (fun k => rivuletlaw02_fixed.mono k) hk fixed60
end Go.Proofs.Ythincnfcekcdaaa.CF
