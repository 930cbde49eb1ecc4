import Derived.Deep.RegionHeld3
import Derived.Deep.Cut
import Derived.Test.YtkiepnmbimkadaaKRecovers44
import Derived.Test.YtkiepnmbimkadaaKRecovers45
namespace Go.Proofs.Ytkiepnmbimkadaa.WL
open Go.RowKit Go.Proofs.Ytkiepnmbimkadaa Go.Proofs.Ytkiepnmbimkadaa.DK Go.Proofs.Ytkiepnmbimkadaa.Pr Go.Proofs.Ytkiepnmbimkadaa.VP Go.Proofs.Ytkiepnmbimkadaa.VF Go.Proofs.Ytkiepnmbimkadaa.CF Go.Proofs.Ytkiepnmbimkadaa.WF Go.Proofs.Ytkiepnmbimkadaa.ML
theorem open_zero {w : World} {A : Nat} (h : At w A (.slice none 0 0) zero4 zero4 []) : Calls Try.prog 10 #[.pointer (some ⟨A, 0, none⟩)] w fun e w2 => ∃ L, e = .returned (.tuple #[.pointer (some ⟨L, 0, none⟩), .int .i64 0]) ∧ Opened own LT w w2 A (.slice none 0 0) L ⟨zero4, zero4, []⟩ ⟨0, ⟨#[]⟩, [], 0⟩ := fx_open h
end Go.Proofs.Ytkiepnmbimkadaa.WL
namespace Go.Proofs.Ytkiepnmbimkadaa.VF
open Go.RowKit
end Go.Proofs.Ytkiepnmbimkadaa.VF
