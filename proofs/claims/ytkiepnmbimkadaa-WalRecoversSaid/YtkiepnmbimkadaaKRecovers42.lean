import Derived.Deep.RegionHeld3
import Derived.Test.YtkiepnmbimkadaaKRecovers41
import Derived.Test.YtkiepnmbimkadaaKRecovers26
namespace Go.Proofs.Ytkiepnmbimkadaa.WL
open Go.RowKit Go.Proofs.Ytkiepnmbimkadaa Go.Proofs.Ytkiepnmbimkadaa.DK Go.Proofs.Ytkiepnmbimkadaa.Pr Go.Proofs.Ytkiepnmbimkadaa.VP Go.Proofs.Ytkiepnmbimkadaa.VF Go.Proofs.Ytkiepnmbimkadaa.CF Go.Proofs.Ytkiepnmbimkadaa.WF
theorem same_calls {w : World} {b1 b2 : Nat} {o1 o2 : Option Addr} {c1 c2 : Nat} {l m : List ByteArray} (h1 : w.ownsRow b1 9 1 (.slice o1 l.length c1) l.length (l.map Value.string)) (h2 : w.ownsRow b2 9 1 (.slice o2 m.length c2) m.length (m.map Value.string)) (hl : l.length ≤ 1000000) :
    Calls Try.prog 18 #[.slice o1 l.length c1, .slice o2 m.length c2] w fun e w2 => e = .returned (.bool (decide (l = m))) ∧ Below w.heap.size w w2 :=
  (rivuletref02_Same.calls (l.length + 1) o1 c1 l o2 c2 m _ w (strs_C h1).1 (strs_C h1).2 (strs_C h2).1 (strs_C h2).2 (same_f l m (by omega) (by omega))).mono fun e w2 ⟨he, hd⟩ => ⟨he, hd.below⟩
theorem same_yes {w : World} {b1 b2 : Nat} {o1 o2 : Option Addr} {c1 c2 : Nat} {l : List ByteArray} (h1 : w.ownsRow b1 9 1 (.slice o1 l.length c1) l.length (l.map Value.string)) (h2 : w.ownsRow b2 9 1 (.slice o2 l.length c2) l.length (l.map Value.string)) (hl : l.length ≤ 1000000) :
    Calls Try.prog 18 #[.slice o1 l.length c1, .slice o2 l.length c2] w fun e w2 => e = .returned (.bool true) ∧ Below w.heap.size w w2 :=
  (same_calls h1 h2 hl).mono fun e w2 ⟨he, hb⟩ => ⟨by rw [he]; simp, hb⟩
end Go.Proofs.Ytkiepnmbimkadaa.WL
