/-
  No cell of these rows narrows 'for every input' (looked for: loops, veiled, ifaces, maps, wideKeys, modest, calm, conditions, laid).
  DERIVED. THE GIVEN ROWS OF THIS SEAT. 5 by the template 'for every input the law returns true; each argument reads behind the call as it read before'; 0 by the template 'total and deterministic' (their statements: YtkiepnmbimkadaaTotals.lean).
  GIVEN WITH THE SEED: the statements are not yours to turn. If you find one false, say at which input.
  Laid BY PROGRAM, IN A SANDBOX (cutbox-rows.mjs): the forced cells as the released guide's own fill.sh prints them over the translation 77c791918e5b58df… (all of the seat's roots in one cut). By AI agents, Wed Nov 11 2026. No macro, syntax, notation, axiom, sorry.
-/
import Derived.Test.YtkiepnmbimkadaaChecked
import GoSem.Claim
import GoSem.ClaimJoined
import GoSem.ClaimMapViews
import Derived.JoinedTies
import Derived.KernelRfl
namespace Go.Proofs.Ytkiepnmbimkadaa
/- THE CELL 'sum', in the pinned program and in every row, IS THE sha256 OF THE DUMP (.gsa) THAT YtkiepnmbimkadaaProg.lean LOADS. Nothing in Lean hashes anything: it is a label: what it is worth is what the hold of that sum in a sandbox is worth. -/
noncomputable def Try.pinned : Pinned := { name := "ytkiepnmbimkadaa", sum := "77c791918e5b58df97151a31ec18d4efe6f03ef84e82bec022ded4e5d9edd761", checked := Try.checked }
namespace Rows
def none {H : Type} : Left H := { results := [], args := [] }

/-- 'rivuletlaw10.WalRecovers': WHATEVER THE INPUT: true; the input reads as it did. -/
def walRecoversSpec : ChangeSpec := { name := "walRecovers", fn := fun _ => fun
  | [d1, d2] => { results := [.lit (.bool true)], args := [d1, d2] }
  | _ => none }
def walRecoversRow : OpenClaim := { program := "ytkiepnmbimkadaa", sum := "77c791918e5b58df97151a31ec18d4efe6f03ef84e82bec022ded4e5d9edd761", func := "rivulet/rivuletlaw10.WalRecovers", spec := "walRecovers", unfollowed := true, recurses := true, apart := false }
def WalRecoversSaid : Prop := walRecoversRow.holds Try.pinned (OpenSpec.ofChange walRecoversSpec)

/-- ITS FALSE NEIGHBOUR: 'it returns false'. Refute it at one input. -/
def walRecoversWrong : ChangeSpec := { name := "walRecovers", fn := fun _ => fun
  | [d1, d2] => { results := [.lit (.bool false)], args := [d1, d2] }
  | _ => none }
def WalRecoversWrongFalsely : Prop := walRecoversRow.holds Try.pinned (OpenSpec.ofChange walRecoversWrong)

/-- 'rivuletlaw10.WalCuts': WHATEVER THE INPUT: true; the input reads as it did. -/
def walCutsSpec : ChangeSpec := { name := "walCuts", fn := fun _ => fun
  | [d1, d2] => { results := [.lit (.bool true)], args := [d1, d2] }
  | _ => none }
def walCutsRow : OpenClaim := { program := "ytkiepnmbimkadaa", sum := "77c791918e5b58df97151a31ec18d4efe6f03ef84e82bec022ded4e5d9edd761", func := "rivulet/rivuletlaw10.WalCuts", spec := "walCuts", unfollowed := true, recurses := true, apart := false }
def WalCutsSaid : Prop := walCutsRow.holds Try.pinned (OpenSpec.ofChange walCutsSpec)

/-- ITS FALSE NEIGHBOUR: 'it returns false'. Refute it at one input. -/
def walCutsWrong : ChangeSpec := { name := "walCuts", fn := fun _ => fun
  | [d1, d2] => { results := [.lit (.bool false)], args := [d1, d2] }
  | _ => none }
def WalCutsWrongFalsely : Prop := walCutsRow.holds Try.pinned (OpenSpec.ofChange walCutsWrong)

/-- 'rivuletlaw10.WalChecks': WHATEVER THE INPUT: true; the input reads as it did. -/
def walChecksSpec : ChangeSpec := { name := "walChecks", fn := fun _ => fun
  | [d1, d2] => { results := [.lit (.bool true)], args := [d1, d2] }
  | _ => none }
def walChecksRow : OpenClaim := { program := "ytkiepnmbimkadaa", sum := "77c791918e5b58df97151a31ec18d4efe6f03ef84e82bec022ded4e5d9edd761", func := "rivulet/rivuletlaw10.WalChecks", spec := "walChecks", unfollowed := true, recurses := true, apart := false }
def WalChecksSaid : Prop := walChecksRow.holds Try.pinned (OpenSpec.ofChange walChecksSpec)

/-- ITS FALSE NEIGHBOUR: 'it returns false'. Refute it at one input. -/
def walChecksWrong : ChangeSpec := { name := "walChecks", fn := fun _ => fun
  | [d1, d2] => { results := [.lit (.bool false)], args := [d1, d2] }
  | _ => none }
def WalChecksWrongFalsely : Prop := walChecksRow.holds Try.pinned (OpenSpec.ofChange walChecksWrong)

/-- 'rivuletlaw10.WalDoes': WHATEVER THE INPUT: true; the input reads as it did. -/
def walDoesSpec : ChangeSpec := { name := "walDoes", fn := fun _ => fun
  | [d] => { results := [.lit (.bool true)], args := [d] }
  | _ => none }
def walDoesRow : OpenClaim := { program := "ytkiepnmbimkadaa", sum := "77c791918e5b58df97151a31ec18d4efe6f03ef84e82bec022ded4e5d9edd761", func := "rivulet/rivuletlaw10.WalDoes", spec := "walDoes", unfollowed := true, recurses := true, apart := false }
def WalDoesSaid : Prop := walDoesRow.holds Try.pinned (OpenSpec.ofChange walDoesSpec)

/-- ITS FALSE NEIGHBOUR: 'it returns false'. Refute it at one input. -/
def walDoesWrong : ChangeSpec := { name := "walDoes", fn := fun _ => fun
  | [d] => { results := [.lit (.bool false)], args := [d] }
  | _ => none }
def WalDoesWrongFalsely : Prop := walDoesRow.holds Try.pinned (OpenSpec.ofChange walDoesWrong)

/-- 'rivuletlaw10.WalOpens': WHATEVER THE INPUT: true; the input reads as it did. -/
def walOpensSpec : ChangeSpec := { name := "walOpens", fn := fun _ => fun
  | [d1, d2] => { results := [.lit (.bool true)], args := [d1, d2] }
  | _ => none }
def walOpensRow : OpenClaim := { program := "ytkiepnmbimkadaa", sum := "77c791918e5b58df97151a31ec18d4efe6f03ef84e82bec022ded4e5d9edd761", func := "rivulet/rivuletlaw10.WalOpens", spec := "walOpens", unfollowed := true, recurses := true, apart := false }
def WalOpensSaid : Prop := walOpensRow.holds Try.pinned (OpenSpec.ofChange walOpensSpec)

/-- ITS FALSE NEIGHBOUR: 'it returns false'. Refute it at one input. -/
def walOpensWrong : ChangeSpec := { name := "walOpens", fn := fun _ => fun
  | [d1, d2] => { results := [.lit (.bool false)], args := [d1, d2] }
  | _ => none }
def WalOpensWrongFalsely : Prop := walOpensRow.holds Try.pinned (OpenSpec.ofChange walOpensWrong)

/- THE SECOND FORM. 'bulk': how many values and letters a reading holds, each counted each time it is reached (what is shared counts as often as it is met; a slice's spare places count too). A statement '..UptoSaid' is the law's where the arguments, and the package variables that the reading takes, are together of bulk at most 1048576: NARROWER than '..Said'. Prove '..Said' where nothing that the law and all that it calls make is longer than what came in: it says more and counts as full. Else prove '..UptoSaid'. A law counts once. -/
mutual
def uptoBulk {H : Type} : DataW H → Nat
  | .lit (.string bytes) => bytes.length + 1
  | .lit _ => 1
  | .nil => 1
  | .ptr d => uptoBulk d + 1
  | .slice elems spare => uptoBulkAll elems + uptoBulkAll spare + 1
  | .agg parts => uptoBulkAll parts + 1
  | .iface _ d => uptoBulk d + 1
  | .map entries => uptoBulkEntries entries + 1
  | .held _ => 1
def uptoBulkAll {H : Type} : List (DataW H) → Nat
  | [] => 0
  | d :: r => uptoBulk d + uptoBulkAll r
def uptoBulkEntries {H : Type} : List (Lit × DataW H) → Nat
  | [] => 0
  | x :: r => uptoBulkEntry x + uptoBulkEntries r
def uptoBulkEntry {H : Type} : Lit × DataW H → Nat
  | (.string bytes, d) => bytes.length + uptoBulk d + 1
  | (_, d) => uptoBulk d + 1
 end
def uptoSmall : (H : Type) → List (DataW H) → Bool := fun _ ds => decide (uptoBulkAll ds ≤ 1048576)
def OpenSpec.upto (s : _root_.Go.ChangeSpec) : _root_.Go.OpenSpec := { _root_.Go.OpenSpec.ofChange s with cond := some uptoSmall }

/-- 'rivuletlaw10.WalRecovers', WHERE WHAT IT READS IS OF BULK AT MOST 1048576: true; the input reads as it did. -/
def walRecoversUptoRow : OpenClaim := { program := "ytkiepnmbimkadaa", sum := "77c791918e5b58df97151a31ec18d4efe6f03ef84e82bec022ded4e5d9edd761", func := "rivulet/rivuletlaw10.WalRecovers", spec := "walRecovers", unfollowed := true, recurses := true, apart := false, narrowed := true }
def WalRecoversUptoSaid : Prop := walRecoversUptoRow.holds Try.pinned (OpenSpec.upto walRecoversSpec)

/-- 'rivuletlaw10.WalCuts', WHERE WHAT IT READS IS OF BULK AT MOST 1048576: true; the input reads as it did. -/
def walCutsUptoRow : OpenClaim := { program := "ytkiepnmbimkadaa", sum := "77c791918e5b58df97151a31ec18d4efe6f03ef84e82bec022ded4e5d9edd761", func := "rivulet/rivuletlaw10.WalCuts", spec := "walCuts", unfollowed := true, recurses := true, apart := false, narrowed := true }
def WalCutsUptoSaid : Prop := walCutsUptoRow.holds Try.pinned (OpenSpec.upto walCutsSpec)

/-- 'rivuletlaw10.WalChecks', WHERE WHAT IT READS IS OF BULK AT MOST 1048576: true; the input reads as it did. -/
def walChecksUptoRow : OpenClaim := { program := "ytkiepnmbimkadaa", sum := "77c791918e5b58df97151a31ec18d4efe6f03ef84e82bec022ded4e5d9edd761", func := "rivulet/rivuletlaw10.WalChecks", spec := "walChecks", unfollowed := true, recurses := true, apart := false, narrowed := true }
def WalChecksUptoSaid : Prop := walChecksUptoRow.holds Try.pinned (OpenSpec.upto walChecksSpec)

/-- 'rivuletlaw10.WalDoes', WHERE WHAT IT READS IS OF BULK AT MOST 1048576: true; the input reads as it did. -/
def walDoesUptoRow : OpenClaim := { program := "ytkiepnmbimkadaa", sum := "77c791918e5b58df97151a31ec18d4efe6f03ef84e82bec022ded4e5d9edd761", func := "rivulet/rivuletlaw10.WalDoes", spec := "walDoes", unfollowed := true, recurses := true, apart := false, narrowed := true }
def WalDoesUptoSaid : Prop := walDoesUptoRow.holds Try.pinned (OpenSpec.upto walDoesSpec)

/-- 'rivuletlaw10.WalOpens', WHERE WHAT IT READS IS OF BULK AT MOST 1048576: true; the input reads as it did. -/
def walOpensUptoRow : OpenClaim := { program := "ytkiepnmbimkadaa", sum := "77c791918e5b58df97151a31ec18d4efe6f03ef84e82bec022ded4e5d9edd761", func := "rivulet/rivuletlaw10.WalOpens", spec := "walOpens", unfollowed := true, recurses := true, apart := false, narrowed := true }
def WalOpensUptoSaid : Prop := walOpensUptoRow.holds Try.pinned (OpenSpec.upto walOpensSpec)

end Rows
end Go.Proofs.Ytkiepnmbimkadaa
