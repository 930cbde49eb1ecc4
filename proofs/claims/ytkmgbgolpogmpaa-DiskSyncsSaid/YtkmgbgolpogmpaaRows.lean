/-
  No cell of these rows narrows 'for every input' (looked for: loops, veiled, ifaces, maps, wideKeys, modest, calm, conditions, laid).
  DERIVED. THE GIVEN ROWS OF THIS SEAT. 6 by the template 'for every input the law returns true; each argument reads behind the call as it read before'; 0 by the template 'total and deterministic' (their statements: YtkmgbgolpogmpaaTotals.lean).
  GIVEN WITH THE SEED: the statements are not yours to turn. If you find one false, say at which input.
  Laid BY PROGRAM, IN A SANDBOX (cutbox-rows.mjs): the forced cells as the released guide's own fill.sh prints them over the translation 320a30271459a96d… (all of the seat's roots in one cut). By AI agents, Wed Nov 11 2026. No macro, syntax, notation, axiom, sorry.
-/
import Derived.Test.YtkmgbgolpogmpaaChecked
import GoSem.Claim
import GoSem.ClaimJoined
import GoSem.ClaimMapViews
import Derived.JoinedTies
import Derived.KernelRfl
namespace Go.Proofs.Ytkmgbgolpogmpaa
/- THE CELL 'sum', in the pinned program and in every row, IS THE sha256 OF THE DUMP (.gsa) THAT YtkmgbgolpogmpaaProg.lean LOADS. Nothing in Lean hashes anything: it is a label: what it is worth is what the hold of that sum in a sandbox is worth. -/
noncomputable def Try.pinned : Pinned := { name := "ytkmgbgolpogmpaa", sum := "320a30271459a96d73df248773c30a9f40b2ef044df3910923f1d5532ef9c983", checked := Try.checked }
namespace Rows
def none {H : Type} : Left H := { results := [], args := [] }

/-- 'rivuletlaw09.DiskDoes': WHATEVER THE INPUT: true; the input reads as it did. -/
def diskDoesSpec : ChangeSpec := { name := "diskDoes", fn := fun _ => fun
  | [d] => { results := [.lit (.bool true)], args := [d] }
  | _ => none }
def diskDoesRow : OpenClaim := { program := "ytkmgbgolpogmpaa", sum := "320a30271459a96d73df248773c30a9f40b2ef044df3910923f1d5532ef9c983", func := "rivulet/rivuletlaw09.DiskDoes", spec := "diskDoes", unfollowed := true, recurses := true, apart := false }
def DiskDoesSaid : Prop := diskDoesRow.holds Try.pinned (OpenSpec.ofChange diskDoesSpec)

/-- ITS FALSE NEIGHBOUR: 'it returns false'. Refute it at one input. -/
def diskDoesWrong : ChangeSpec := { name := "diskDoes", fn := fun _ => fun
  | [d] => { results := [.lit (.bool false)], args := [d] }
  | _ => none }
def DiskDoesWrongFalsely : Prop := diskDoesRow.holds Try.pinned (OpenSpec.ofChange diskDoesWrong)

/-- 'rivuletlaw09.DiskCrashes': WHATEVER THE INPUT: true; the input reads as it did. -/
def diskCrashesSpec : ChangeSpec := { name := "diskCrashes", fn := fun _ => fun
  | [d1, d2] => { results := [.lit (.bool true)], args := [d1, d2] }
  | _ => none }
def diskCrashesRow : OpenClaim := { program := "ytkmgbgolpogmpaa", sum := "320a30271459a96d73df248773c30a9f40b2ef044df3910923f1d5532ef9c983", func := "rivulet/rivuletlaw09.DiskCrashes", spec := "diskCrashes", unfollowed := true, recurses := true, apart := false }
def DiskCrashesSaid : Prop := diskCrashesRow.holds Try.pinned (OpenSpec.ofChange diskCrashesSpec)

/-- ITS FALSE NEIGHBOUR: 'it returns false'. Refute it at one input. -/
def diskCrashesWrong : ChangeSpec := { name := "diskCrashes", fn := fun _ => fun
  | [d1, d2] => { results := [.lit (.bool false)], args := [d1, d2] }
  | _ => none }
def DiskCrashesWrongFalsely : Prop := diskCrashesRow.holds Try.pinned (OpenSpec.ofChange diskCrashesWrong)

/-- 'rivuletlaw09.DiskTorn': WHATEVER THE INPUT: true; the input reads as it did. -/
def diskTornSpec : ChangeSpec := { name := "diskTorn", fn := fun _ => fun
  | [d1, d2, d3] => { results := [.lit (.bool true)], args := [d1, d2, d3] }
  | _ => none }
def diskTornRow : OpenClaim := { program := "ytkmgbgolpogmpaa", sum := "320a30271459a96d73df248773c30a9f40b2ef044df3910923f1d5532ef9c983", func := "rivulet/rivuletlaw09.DiskTorn", spec := "diskTorn", unfollowed := true, recurses := true, apart := false }
def DiskTornSaid : Prop := diskTornRow.holds Try.pinned (OpenSpec.ofChange diskTornSpec)

/-- ITS FALSE NEIGHBOUR: 'it returns false'. Refute it at one input. -/
def diskTornWrong : ChangeSpec := { name := "diskTorn", fn := fun _ => fun
  | [d1, d2, d3] => { results := [.lit (.bool false)], args := [d1, d2, d3] }
  | _ => none }
def DiskTornWrongFalsely : Prop := diskTornRow.holds Try.pinned (OpenSpec.ofChange diskTornWrong)

/-- 'rivuletlaw09.DiskWhole': WHATEVER THE INPUT: true; the input reads as it did. -/
def diskWholeSpec : ChangeSpec := { name := "diskWhole", fn := fun _ => fun
  | [d1, d2, d3] => { results := [.lit (.bool true)], args := [d1, d2, d3] }
  | _ => none }
def diskWholeRow : OpenClaim := { program := "ytkmgbgolpogmpaa", sum := "320a30271459a96d73df248773c30a9f40b2ef044df3910923f1d5532ef9c983", func := "rivulet/rivuletlaw09.DiskWhole", spec := "diskWhole", unfollowed := true, recurses := true, apart := false }
def DiskWholeSaid : Prop := diskWholeRow.holds Try.pinned (OpenSpec.ofChange diskWholeSpec)

/-- ITS FALSE NEIGHBOUR: 'it returns false'. Refute it at one input. -/
def diskWholeWrong : ChangeSpec := { name := "diskWhole", fn := fun _ => fun
  | [d1, d2, d3] => { results := [.lit (.bool false)], args := [d1, d2, d3] }
  | _ => none }
def DiskWholeWrongFalsely : Prop := diskWholeRow.holds Try.pinned (OpenSpec.ofChange diskWholeWrong)

/-- 'rivuletlaw09.DiskSyncs': WHATEVER THE INPUT: true; the input reads as it did. -/
def diskSyncsSpec : ChangeSpec := { name := "diskSyncs", fn := fun _ => fun
  | [d1, d2] => { results := [.lit (.bool true)], args := [d1, d2] }
  | _ => none }
def diskSyncsRow : OpenClaim := { program := "ytkmgbgolpogmpaa", sum := "320a30271459a96d73df248773c30a9f40b2ef044df3910923f1d5532ef9c983", func := "rivulet/rivuletlaw09.DiskSyncs", spec := "diskSyncs", unfollowed := true, recurses := true, apart := false }
def DiskSyncsSaid : Prop := diskSyncsRow.holds Try.pinned (OpenSpec.ofChange diskSyncsSpec)

/-- ITS FALSE NEIGHBOUR: 'it returns false'. Refute it at one input. -/
def diskSyncsWrong : ChangeSpec := { name := "diskSyncs", fn := fun _ => fun
  | [d1, d2] => { results := [.lit (.bool false)], args := [d1, d2] }
  | _ => none }
def DiskSyncsWrongFalsely : Prop := diskSyncsRow.holds Try.pinned (OpenSpec.ofChange diskSyncsWrong)

/-- 'rivuletlaw09.DiskApart': WHATEVER THE INPUT: true; the input reads as it did. -/
def diskApartSpec : ChangeSpec := { name := "diskApart", fn := fun _ => fun
  | [d] => { results := [.lit (.bool true)], args := [d] }
  | _ => none }
def diskApartRow : OpenClaim := { program := "ytkmgbgolpogmpaa", sum := "320a30271459a96d73df248773c30a9f40b2ef044df3910923f1d5532ef9c983", func := "rivulet/rivuletlaw09.DiskApart", spec := "diskApart", unfollowed := true, recurses := true, apart := false }
def DiskApartSaid : Prop := diskApartRow.holds Try.pinned (OpenSpec.ofChange diskApartSpec)

/-- ITS FALSE NEIGHBOUR: 'it returns false'. Refute it at one input. -/
def diskApartWrong : ChangeSpec := { name := "diskApart", fn := fun _ => fun
  | [d] => { results := [.lit (.bool false)], args := [d] }
  | _ => none }
def DiskApartWrongFalsely : Prop := diskApartRow.holds Try.pinned (OpenSpec.ofChange diskApartWrong)

/- THE SECOND FORM. 'bulk': how many values and letters a reading holds, each counted each time it is reached (what is shared counts as often as it is met; a slice's spare places count too). A statement '..UptoSaid' is the law's where the arguments, and the package variables that the reading takes, are together of bulk at most 1048576: NARROWER than '..Said'. Prove '..Said' where nothing that the law and all that it calls make is longer than what came in: it says more and counts as full. Else prove '..UptoSaid'. A law counts once. -/
mutual
def uptoBulk {H : Type} : DataW H → Nat
  | .lit (.string bytes) => bytes.length + 1
  | .lit _ => 1
  | .nil => 1
  | .ptr d => uptoBulk d + 1
  | .slice elems spare => uptoBulkAll elems + uptoBulkAll spare + 1
  | .agg parts => uptoBulkAll parts + 1
  | .iface _ d => uptoBulk d + 1
  | .map entries => uptoBulkEntries entries + 1
  | .held _ => 1
def uptoBulkAll {H : Type} : List (DataW H) → Nat
  | [] => 0
  | d :: r => uptoBulk d + uptoBulkAll r
def uptoBulkEntries {H : Type} : List (Lit × DataW H) → Nat
  | [] => 0
  | x :: r => uptoBulkEntry x + uptoBulkEntries r
def uptoBulkEntry {H : Type} : Lit × DataW H → Nat
  | (.string bytes, d) => bytes.length + uptoBulk d + 1
  | (_, d) => uptoBulk d + 1
 end
def uptoSmall : (H : Type) → List (DataW H) → Bool := fun _ ds => decide (uptoBulkAll ds ≤ 1048576)
def OpenSpec.upto (s : _root_.Go.ChangeSpec) : _root_.Go.OpenSpec := { _root_.Go.OpenSpec.ofChange s with cond := some uptoSmall }

/-- 'rivuletlaw09.DiskDoes', WHERE WHAT IT READS IS OF BULK AT MOST 1048576: true; the input reads as it did. -/
def diskDoesUptoRow : OpenClaim := { program := "ytkmgbgolpogmpaa", sum := "320a30271459a96d73df248773c30a9f40b2ef044df3910923f1d5532ef9c983", func := "rivulet/rivuletlaw09.DiskDoes", spec := "diskDoes", unfollowed := true, recurses := true, apart := false, narrowed := true }
def DiskDoesUptoSaid : Prop := diskDoesUptoRow.holds Try.pinned (OpenSpec.upto diskDoesSpec)

/-- 'rivuletlaw09.DiskCrashes', WHERE WHAT IT READS IS OF BULK AT MOST 1048576: true; the input reads as it did. -/
def diskCrashesUptoRow : OpenClaim := { program := "ytkmgbgolpogmpaa", sum := "320a30271459a96d73df248773c30a9f40b2ef044df3910923f1d5532ef9c983", func := "rivulet/rivuletlaw09.DiskCrashes", spec := "diskCrashes", unfollowed := true, recurses := true, apart := false, narrowed := true }
def DiskCrashesUptoSaid : Prop := diskCrashesUptoRow.holds Try.pinned (OpenSpec.upto diskCrashesSpec)

/-- 'rivuletlaw09.DiskTorn', WHERE WHAT IT READS IS OF BULK AT MOST 1048576: true; the input reads as it did. -/
def diskTornUptoRow : OpenClaim := { program := "ytkmgbgolpogmpaa", sum := "320a30271459a96d73df248773c30a9f40b2ef044df3910923f1d5532ef9c983", func := "rivulet/rivuletlaw09.DiskTorn", spec := "diskTorn", unfollowed := true, recurses := true, apart := false, narrowed := true }
def DiskTornUptoSaid : Prop := diskTornUptoRow.holds Try.pinned (OpenSpec.upto diskTornSpec)

/-- 'rivuletlaw09.DiskWhole', WHERE WHAT IT READS IS OF BULK AT MOST 1048576: true; the input reads as it did. -/
def diskWholeUptoRow : OpenClaim := { program := "ytkmgbgolpogmpaa", sum := "320a30271459a96d73df248773c30a9f40b2ef044df3910923f1d5532ef9c983", func := "rivulet/rivuletlaw09.DiskWhole", spec := "diskWhole", unfollowed := true, recurses := true, apart := false, narrowed := true }
def DiskWholeUptoSaid : Prop := diskWholeUptoRow.holds Try.pinned (OpenSpec.upto diskWholeSpec)

/-- 'rivuletlaw09.DiskSyncs', WHERE WHAT IT READS IS OF BULK AT MOST 1048576: true; the input reads as it did. -/
def diskSyncsUptoRow : OpenClaim := { program := "ytkmgbgolpogmpaa", sum := "320a30271459a96d73df248773c30a9f40b2ef044df3910923f1d5532ef9c983", func := "rivulet/rivuletlaw09.DiskSyncs", spec := "diskSyncs", unfollowed := true, recurses := true, apart := false, narrowed := true }
def DiskSyncsUptoSaid : Prop := diskSyncsUptoRow.holds Try.pinned (OpenSpec.upto diskSyncsSpec)

/-- 'rivuletlaw09.DiskApart', WHERE WHAT IT READS IS OF BULK AT MOST 1048576: true; the input reads as it did. -/
def diskApartUptoRow : OpenClaim := { program := "ytkmgbgolpogmpaa", sum := "320a30271459a96d73df248773c30a9f40b2ef044df3910923f1d5532ef9c983", func := "rivulet/rivuletlaw09.DiskApart", spec := "diskApart", unfollowed := true, recurses := true, apart := false, narrowed := true }
def DiskApartUptoSaid : Prop := diskApartUptoRow.holds Try.pinned (OpenSpec.upto diskApartSpec)

end Rows
end Go.Proofs.Ytkmgbgolpogmpaa
