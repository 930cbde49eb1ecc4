/-
  No cell of these rows narrows 'for every input' (looked for: loops, veiled, ifaces, maps, wideKeys, modest, calm, conditions, laid).
  DERIVED. THE GIVEN ROWS OF THIS SEAT. 8 by the template 'for every input the law returns true; each argument reads behind the call as it read before'; 0 by the template 'total and deterministic' (their statements: YthincnfcekcdaaaTotals.lean).
  GIVEN WITH THE SEED: the statements are not yours to turn. If you find one false, say at which input.
  Laid BY PROGRAM, IN A SANDBOX (cutbox-rows.mjs): the forced cells as the released guide's own fill.sh prints them over the translation 5dd335246e3ff7a2… (all of the seat's roots in one cut). By AI agents, Wed Nov 11 2026. No macro, syntax, notation, axiom, sorry.
-/
import Derived.Test.YthincnfcekcdaaaChecked
import GoSem.Claim
import GoSem.ClaimJoined
import GoSem.ClaimMapViews
import Derived.JoinedTies
import Derived.KernelRfl
namespace Go.Proofs.Ythincnfcekcdaaa
/- THE CELL 'sum', in the pinned program and in every row, IS THE sha256 OF THE DUMP (.gsa) THAT YthincnfcekcdaaaProg.lean LOADS. Nothing in Lean hashes anything: it is a label: what it is worth is what the hold of that sum in a sandbox is worth. -/
noncomputable def Try.pinned : Pinned := { name := "ythincnfcekcdaaa", sum := "5dd335246e3ff7a22a12c3c8cd13b23951fe7c18571c2e0ac376caa4a179c090", checked := Try.checked }
namespace Rows
def none {H : Type} : Left H := { results := [], args := [] }

/-- 'rivuletlaw02.CheckSums': WHATEVER THE INPUT: true; the input reads as it did. -/
def checkSumsSpec : ChangeSpec := { name := "checkSums", fn := fun _ => fun
  | [d1, d2] => { results := [.lit (.bool true)], args := [d1, d2] }
  | _ => none }
def checkSumsRow : OpenClaim := { program := "ythincnfcekcdaaa", sum := "5dd335246e3ff7a22a12c3c8cd13b23951fe7c18571c2e0ac376caa4a179c090", func := "rivulet/rivuletlaw02.CheckSums", spec := "checkSums", unfollowed := true, recurses := true, apart := false }
def CheckSumsSaid : Prop := checkSumsRow.holds Try.pinned (OpenSpec.ofChange checkSumsSpec)

/-- ITS FALSE NEIGHBOUR: 'it returns false'. Refute it at one input. -/
def checkSumsWrong : ChangeSpec := { name := "checkSums", fn := fun _ => fun
  | [d1, d2] => { results := [.lit (.bool false)], args := [d1, d2] }
  | _ => none }
def CheckSumsWrongFalsely : Prop := checkSumsRow.holds Try.pinned (OpenSpec.ofChange checkSumsWrong)

/-- 'rivuletlaw02.CheckOpens': WHATEVER THE INPUT: true; the input reads as it did. -/
def checkOpensSpec : ChangeSpec := { name := "checkOpens", fn := fun _ => fun
  | [d1, d2] => { results := [.lit (.bool true)], args := [d1, d2] }
  | _ => none }
def checkOpensRow : OpenClaim := { program := "ythincnfcekcdaaa", sum := "5dd335246e3ff7a22a12c3c8cd13b23951fe7c18571c2e0ac376caa4a179c090", func := "rivulet/rivuletlaw02.CheckOpens", spec := "checkOpens", unfollowed := true, recurses := true, apart := false }
def CheckOpensSaid : Prop := checkOpensRow.holds Try.pinned (OpenSpec.ofChange checkOpensSpec)

/-- ITS FALSE NEIGHBOUR: 'it returns false'. Refute it at one input. -/
def checkOpensWrong : ChangeSpec := { name := "checkOpens", fn := fun _ => fun
  | [d1, d2] => { results := [.lit (.bool false)], args := [d1, d2] }
  | _ => none }
def CheckOpensWrongFalsely : Prop := checkOpensRow.holds Try.pinned (OpenSpec.ofChange checkOpensWrong)

/-- 'rivuletlaw02.CheckBack': WHATEVER THE INPUT: true; the input reads as it did. -/
def checkBackSpec : ChangeSpec := { name := "checkBack", fn := fun _ => fun
  | [d1, d2, d3] => { results := [.lit (.bool true)], args := [d1, d2, d3] }
  | _ => none }
def checkBackRow : OpenClaim := { program := "ythincnfcekcdaaa", sum := "5dd335246e3ff7a22a12c3c8cd13b23951fe7c18571c2e0ac376caa4a179c090", func := "rivulet/rivuletlaw02.CheckBack", spec := "checkBack", unfollowed := true, recurses := true, apart := false }
def CheckBackSaid : Prop := checkBackRow.holds Try.pinned (OpenSpec.ofChange checkBackSpec)

/-- ITS FALSE NEIGHBOUR: 'it returns false'. Refute it at one input. -/
def checkBackWrong : ChangeSpec := { name := "checkBack", fn := fun _ => fun
  | [d1, d2, d3] => { results := [.lit (.bool false)], args := [d1, d2, d3] }
  | _ => none }
def CheckBackWrongFalsely : Prop := checkBackRow.holds Try.pinned (OpenSpec.ofChange checkBackWrong)

/-- 'rivuletlaw02.CheckJoins': WHATEVER THE INPUT: true; the input reads as it did. -/
def checkJoinsSpec : ChangeSpec := { name := "checkJoins", fn := fun _ => fun
  | [d1, d2] => { results := [.lit (.bool true)], args := [d1, d2] }
  | _ => none }
def checkJoinsRow : OpenClaim := { program := "ythincnfcekcdaaa", sum := "5dd335246e3ff7a22a12c3c8cd13b23951fe7c18571c2e0ac376caa4a179c090", func := "rivulet/rivuletlaw02.CheckJoins", spec := "checkJoins", unfollowed := true, recurses := true, apart := false }
def CheckJoinsSaid : Prop := checkJoinsRow.holds Try.pinned (OpenSpec.ofChange checkJoinsSpec)

/-- ITS FALSE NEIGHBOUR: 'it returns false'. Refute it at one input. -/
def checkJoinsWrong : ChangeSpec := { name := "checkJoins", fn := fun _ => fun
  | [d1, d2] => { results := [.lit (.bool false)], args := [d1, d2] }
  | _ => none }
def CheckJoinsWrongFalsely : Prop := checkJoinsRow.holds Try.pinned (OpenSpec.ofChange checkJoinsWrong)

/-- 'rivuletlaw02.CheckBits': WHATEVER THE INPUT: true; the input reads as it did. -/
def checkBitsSpec : ChangeSpec := { name := "checkBits", fn := fun _ => fun
  | [d1, d2, d3] => { results := [.lit (.bool true)], args := [d1, d2, d3] }
  | _ => none }
def checkBitsRow : OpenClaim := { program := "ythincnfcekcdaaa", sum := "5dd335246e3ff7a22a12c3c8cd13b23951fe7c18571c2e0ac376caa4a179c090", func := "rivulet/rivuletlaw02.CheckBits", spec := "checkBits", unfollowed := true, recurses := true, apart := false }
def CheckBitsSaid : Prop := checkBitsRow.holds Try.pinned (OpenSpec.ofChange checkBitsSpec)

/-- ITS FALSE NEIGHBOUR: 'it returns false'. Refute it at one input. -/
def checkBitsWrong : ChangeSpec := { name := "checkBits", fn := fun _ => fun
  | [d1, d2, d3] => { results := [.lit (.bool false)], args := [d1, d2, d3] }
  | _ => none }
def CheckBitsWrongFalsely : Prop := checkBitsRow.holds Try.pinned (OpenSpec.ofChange checkBitsWrong)

/-- 'rivuletlaw02.CheckTorn': WHATEVER THE INPUT: true; the input reads as it did. -/
def checkTornSpec : ChangeSpec := { name := "checkTorn", fn := fun _ => fun
  | [d1, d2] => { results := [.lit (.bool true)], args := [d1, d2] }
  | _ => none }
def checkTornRow : OpenClaim := { program := "ythincnfcekcdaaa", sum := "5dd335246e3ff7a22a12c3c8cd13b23951fe7c18571c2e0ac376caa4a179c090", func := "rivulet/rivuletlaw02.CheckTorn", spec := "checkTorn", unfollowed := true, recurses := true, apart := false }
def CheckTornSaid : Prop := checkTornRow.holds Try.pinned (OpenSpec.ofChange checkTornSpec)

/-- ITS FALSE NEIGHBOUR: 'it returns false'. Refute it at one input. -/
def checkTornWrong : ChangeSpec := { name := "checkTorn", fn := fun _ => fun
  | [d1, d2] => { results := [.lit (.bool false)], args := [d1, d2] }
  | _ => none }
def CheckTornWrongFalsely : Prop := checkTornRow.holds Try.pinned (OpenSpec.ofChange checkTornWrong)

/-- 'rivuletlaw02.CheckRows': WHATEVER THE INPUT: true; the input reads as it did. -/
def checkRowsSpec : ChangeSpec := { name := "checkRows", fn := fun _ => fun
  | [d] => { results := [.lit (.bool true)], args := [d] }
  | _ => none }
def checkRowsRow : OpenClaim := { program := "ythincnfcekcdaaa", sum := "5dd335246e3ff7a22a12c3c8cd13b23951fe7c18571c2e0ac376caa4a179c090", func := "rivulet/rivuletlaw02.CheckRows", spec := "checkRows", unfollowed := true, recurses := true, apart := false }
def CheckRowsSaid : Prop := checkRowsRow.holds Try.pinned (OpenSpec.ofChange checkRowsSpec)

/-- ITS FALSE NEIGHBOUR: 'it returns false'. Refute it at one input. -/
def checkRowsWrong : ChangeSpec := { name := "checkRows", fn := fun _ => fun
  | [d] => { results := [.lit (.bool false)], args := [d] }
  | _ => none }
def CheckRowsWrongFalsely : Prop := checkRowsRow.holds Try.pinned (OpenSpec.ofChange checkRowsWrong)

/-- 'rivuletlaw02.CheckTexts': WHATEVER THE INPUT: true; the input reads as it did. -/
def checkTextsSpec : ChangeSpec := { name := "checkTexts", fn := fun _ => fun
  | [d1, d2] => { results := [.lit (.bool true)], args := [d1, d2] }
  | _ => none }
def checkTextsRow : OpenClaim := { program := "ythincnfcekcdaaa", sum := "5dd335246e3ff7a22a12c3c8cd13b23951fe7c18571c2e0ac376caa4a179c090", func := "rivulet/rivuletlaw02.CheckTexts", spec := "checkTexts", unfollowed := true, recurses := true, apart := false }
def CheckTextsSaid : Prop := checkTextsRow.holds Try.pinned (OpenSpec.ofChange checkTextsSpec)

/-- ITS FALSE NEIGHBOUR: 'it returns false'. Refute it at one input. -/
def checkTextsWrong : ChangeSpec := { name := "checkTexts", fn := fun _ => fun
  | [d1, d2] => { results := [.lit (.bool false)], args := [d1, d2] }
  | _ => none }
def CheckTextsWrongFalsely : Prop := checkTextsRow.holds Try.pinned (OpenSpec.ofChange checkTextsWrong)

/- THE SECOND FORM. 'bulk': how many values and letters a reading holds, each counted each time it is reached (what is shared counts as often as it is met; a slice's spare places count too). A statement '..UptoSaid' is the law's where the arguments, and the package variables that the reading takes, are together of bulk at most 1048576: NARROWER than '..Said'. Prove '..Said' where nothing that the law and all that it calls make is longer than what came in: it says more and counts as full. Else prove '..UptoSaid'. A law counts once. -/
mutual
def uptoBulk {H : Type} : DataW H → Nat
  | .lit (.string bytes) => bytes.length + 1
  | .lit _ => 1
  | .nil => 1
  | .ptr d => uptoBulk d + 1
  | .slice elems spare => uptoBulkAll elems + uptoBulkAll spare + 1
  | .agg parts => uptoBulkAll parts + 1
  | .iface _ d => uptoBulk d + 1
  | .map entries => uptoBulkEntries entries + 1
  | .held _ => 1
def uptoBulkAll {H : Type} : List (DataW H) → Nat
  | [] => 0
  | d :: r => uptoBulk d + uptoBulkAll r
def uptoBulkEntries {H : Type} : List (Lit × DataW H) → Nat
  | [] => 0
  | x :: r => uptoBulkEntry x + uptoBulkEntries r
def uptoBulkEntry {H : Type} : Lit × DataW H → Nat
  | (.string bytes, d) => bytes.length + uptoBulk d + 1
  | (_, d) => uptoBulk d + 1
 end
def uptoSmall : (H : Type) → List (DataW H) → Bool := fun _ ds => decide (uptoBulkAll ds ≤ 1048576)
def OpenSpec.upto (s : _root_.Go.ChangeSpec) : _root_.Go.OpenSpec := { _root_.Go.OpenSpec.ofChange s with cond := some uptoSmall }

/-- 'rivuletlaw02.CheckSums', WHERE WHAT IT READS IS OF BULK AT MOST 1048576: true; the input reads as it did. -/
def checkSumsUptoRow : OpenClaim := { program := "ythincnfcekcdaaa", sum := "5dd335246e3ff7a22a12c3c8cd13b23951fe7c18571c2e0ac376caa4a179c090", func := "rivulet/rivuletlaw02.CheckSums", spec := "checkSums", unfollowed := true, recurses := true, apart := false, narrowed := true }
def CheckSumsUptoSaid : Prop := checkSumsUptoRow.holds Try.pinned (OpenSpec.upto checkSumsSpec)

/-- 'rivuletlaw02.CheckOpens', WHERE WHAT IT READS IS OF BULK AT MOST 1048576: true; the input reads as it did. -/
def checkOpensUptoRow : OpenClaim := { program := "ythincnfcekcdaaa", sum := "5dd335246e3ff7a22a12c3c8cd13b23951fe7c18571c2e0ac376caa4a179c090", func := "rivulet/rivuletlaw02.CheckOpens", spec := "checkOpens", unfollowed := true, recurses := true, apart := false, narrowed := true }
def CheckOpensUptoSaid : Prop := checkOpensUptoRow.holds Try.pinned (OpenSpec.upto checkOpensSpec)

/-- 'rivuletlaw02.CheckBack', WHERE WHAT IT READS IS OF BULK AT MOST 1048576: true; the input reads as it did. -/
def checkBackUptoRow : OpenClaim := { program := "ythincnfcekcdaaa", sum := "5dd335246e3ff7a22a12c3c8cd13b23951fe7c18571c2e0ac376caa4a179c090", func := "rivulet/rivuletlaw02.CheckBack", spec := "checkBack", unfollowed := true, recurses := true, apart := false, narrowed := true }
def CheckBackUptoSaid : Prop := checkBackUptoRow.holds Try.pinned (OpenSpec.upto checkBackSpec)

/-- 'rivuletlaw02.CheckJoins', WHERE WHAT IT READS IS OF BULK AT MOST 1048576: true; the input reads as it did. -/
def checkJoinsUptoRow : OpenClaim := { program := "ythincnfcekcdaaa", sum := "5dd335246e3ff7a22a12c3c8cd13b23951fe7c18571c2e0ac376caa4a179c090", func := "rivulet/rivuletlaw02.CheckJoins", spec := "checkJoins", unfollowed := true, recurses := true, apart := false, narrowed := true }
def CheckJoinsUptoSaid : Prop := checkJoinsUptoRow.holds Try.pinned (OpenSpec.upto checkJoinsSpec)

/-- 'rivuletlaw02.CheckBits', WHERE WHAT IT READS IS OF BULK AT MOST 1048576: true; the input reads as it did. -/
def checkBitsUptoRow : OpenClaim := { program := "ythincnfcekcdaaa", sum := "5dd335246e3ff7a22a12c3c8cd13b23951fe7c18571c2e0ac376caa4a179c090", func := "rivulet/rivuletlaw02.CheckBits", spec := "checkBits", unfollowed := true, recurses := true, apart := false, narrowed := true }
def CheckBitsUptoSaid : Prop := checkBitsUptoRow.holds Try.pinned (OpenSpec.upto checkBitsSpec)

/-- 'rivuletlaw02.CheckTorn', WHERE WHAT IT READS IS OF BULK AT MOST 1048576: true; the input reads as it did. -/
def checkTornUptoRow : OpenClaim := { program := "ythincnfcekcdaaa", sum := "5dd335246e3ff7a22a12c3c8cd13b23951fe7c18571c2e0ac376caa4a179c090", func := "rivulet/rivuletlaw02.CheckTorn", spec := "checkTorn", unfollowed := true, recurses := true, apart := false, narrowed := true }
def CheckTornUptoSaid : Prop := checkTornUptoRow.holds Try.pinned (OpenSpec.upto checkTornSpec)

/-- 'rivuletlaw02.CheckRows', WHERE WHAT IT READS IS OF BULK AT MOST 1048576: true; the input reads as it did. -/
def checkRowsUptoRow : OpenClaim := { program := "ythincnfcekcdaaa", sum := "5dd335246e3ff7a22a12c3c8cd13b23951fe7c18571c2e0ac376caa4a179c090", func := "rivulet/rivuletlaw02.CheckRows", spec := "checkRows", unfollowed := true, recurses := true, apart := false, narrowed := true }
def CheckRowsUptoSaid : Prop := checkRowsUptoRow.holds Try.pinned (OpenSpec.upto checkRowsSpec)

/-- 'rivuletlaw02.CheckTexts', WHERE WHAT IT READS IS OF BULK AT MOST 1048576: true; the input reads as it did. -/
def checkTextsUptoRow : OpenClaim := { program := "ythincnfcekcdaaa", sum := "5dd335246e3ff7a22a12c3c8cd13b23951fe7c18571c2e0ac376caa4a179c090", func := "rivulet/rivuletlaw02.CheckTexts", spec := "checkTexts", unfollowed := true, recurses := true, apart := false, narrowed := true }
def CheckTextsUptoSaid : Prop := checkTextsUptoRow.holds Try.pinned (OpenSpec.upto checkTextsSpec)

end Rows
end Go.Proofs.Ythincnfcekcdaaa
