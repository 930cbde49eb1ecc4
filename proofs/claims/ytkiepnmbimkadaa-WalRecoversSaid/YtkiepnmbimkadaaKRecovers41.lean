import Derived.Test.YtkiepnmbimkadaaKRecovers40
namespace Go.Proofs.Ytkiepnmbimkadaa.WL
open Go.RowKit Go.Proofs.Ytkiepnmbimkadaa Go.Proofs.Ytkiepnmbimkadaa.DK Go.Proofs.Ytkiepnmbimkadaa.Pr Go.Proofs.Ytkiepnmbimkadaa.VP Go.Proofs.Ytkiepnmbimkadaa.VF Go.Proofs.Ytkiepnmbimkadaa.CF Go.Proofs.Ytkiepnmbimkadaa.WF
theorem strs_C {w : World} {base : Nat} {o : Option Addr} {c : Nat} {l : List ByteArray} (h : w.ownsRow base 9 1 (.slice o l.length c) l.length (l.map Value.string)) : YtkiepnmbimkadaaW.PrintWords.Kd.C YtkiepnmbimkadaaW.PrintWords.Kd.string w o l.length l ∧ l.length ≤ c := by
  have hR : YtkiepnmbimkadaaW.PrintWords.Kd.R YtkiepnmbimkadaaW.PrintWords.Kd.string 9 w base (fun _ => True) (.slice o l.length c) l := YtkiepnmbimkadaaW.PrintWords.Kd.R_of_own h (fun _ _ => trivial)
  have h2 := YtkiepnmbimkadaaW.PrintWords.Kd.R_reads' hR
  exact ⟨h2.2.2, h2.2.1⟩
end Go.Proofs.Ytkiepnmbimkadaa.WL
