/-
  No cell of these rows narrows 'for every input' (looked for: loops, veiled, ifaces, maps, wideKeys, modest, calm, conditions, laid).
  DERIVED. THE GIVEN ROWS OF THIS SEAT. 6 by the template 'for every input the law returns true; each argument reads behind the call as it read before'; 0 by the template 'total and deterministic' (their statements: YtgomnnddfddkhaaTotals.lean).
  GIVEN WITH THE SEED: the statements are not yours to turn. If you find one false, say at which input.
  Laid BY PROGRAM, IN A SANDBOX (cutbox-rows.mjs): the forced cells as the released guide's own fill.sh prints them over the translation 19f76db8243e2ee4… (all of the seat's roots in one cut). By AI agents, Wed Nov 11 2026. No macro, syntax, notation, axiom, sorry.
-/
import Derived.Test.YtgomnnddfddkhaaChecked
import GoSem.Claim
import GoSem.ClaimJoined
import GoSem.ClaimMapViews
import Derived.JoinedTies
import Derived.KernelRfl
namespace Go.Proofs.Ytgomnnddfddkhaa
/- THE CELL 'sum', in the pinned program and in every row, IS THE sha256 OF THE DUMP (.gsa) THAT YtgomnnddfddkhaaProg.lean LOADS. Nothing in Lean hashes anything: it is a label: what it is worth is what the hold of that sum in a sandbox is worth. -/
noncomputable def Try.pinned : Pinned := { name := "ytgomnnddfddkhaa", sum := "19f76db8243e2ee42ddbd21317ada3eb6ce26ca1a1a485063dbc70c7cdffde59", checked := Try.checked }
namespace Rows
def none {H : Type} : Left H := { results := [], args := [] }

/-- 'rivuletlaw08.MailDoes': WHATEVER THE INPUT: true; the input reads as it did. -/
def mailDoesSpec : ChangeSpec := { name := "mailDoes", fn := fun _ => fun
  | [d1, d2] => { results := [.lit (.bool true)], args := [d1, d2] }
  | _ => none }
def mailDoesRow : OpenClaim := { program := "ytgomnnddfddkhaa", sum := "19f76db8243e2ee42ddbd21317ada3eb6ce26ca1a1a485063dbc70c7cdffde59", func := "rivulet/rivuletlaw08.MailDoes", spec := "mailDoes", unfollowed := true, recurses := true, apart := false }
def MailDoesSaid : Prop := mailDoesRow.holds Try.pinned (OpenSpec.ofChange mailDoesSpec)

/-- ITS FALSE NEIGHBOUR: 'it returns false'. Refute it at one input. -/
def mailDoesWrong : ChangeSpec := { name := "mailDoes", fn := fun _ => fun
  | [d1, d2] => { results := [.lit (.bool false)], args := [d1, d2] }
  | _ => none }
def MailDoesWrongFalsely : Prop := mailDoesRow.holds Try.pinned (OpenSpec.ofChange mailDoesWrong)

/-- 'rivuletlaw08.MailNews': WHATEVER THE INPUT: true; the input reads as it did. -/
def mailNewsSpec : ChangeSpec := { name := "mailNews", fn := fun _ => fun
  | [d] => { results := [.lit (.bool true)], args := [d] }
  | _ => none }
def mailNewsRow : OpenClaim := { program := "ytgomnnddfddkhaa", sum := "19f76db8243e2ee42ddbd21317ada3eb6ce26ca1a1a485063dbc70c7cdffde59", func := "rivulet/rivuletlaw08.MailNews", spec := "mailNews", unfollowed := true, recurses := true, apart := false }
def MailNewsSaid : Prop := mailNewsRow.holds Try.pinned (OpenSpec.ofChange mailNewsSpec)

/-- ITS FALSE NEIGHBOUR: 'it returns false'. Refute it at one input. -/
def mailNewsWrong : ChangeSpec := { name := "mailNews", fn := fun _ => fun
  | [d] => { results := [.lit (.bool false)], args := [d] }
  | _ => none }
def MailNewsWrongFalsely : Prop := mailNewsRow.holds Try.pinned (OpenSpec.ofChange mailNewsWrong)

/-- 'rivuletlaw08.MailOrder': WHATEVER THE INPUT: true; the input reads as it did. -/
def mailOrderSpec : ChangeSpec := { name := "mailOrder", fn := fun _ => fun
  | [d1, d2] => { results := [.lit (.bool true)], args := [d1, d2] }
  | _ => none }
def mailOrderRow : OpenClaim := { program := "ytgomnnddfddkhaa", sum := "19f76db8243e2ee42ddbd21317ada3eb6ce26ca1a1a485063dbc70c7cdffde59", func := "rivulet/rivuletlaw08.MailOrder", spec := "mailOrder", unfollowed := true, recurses := true, apart := false }
def MailOrderSaid : Prop := mailOrderRow.holds Try.pinned (OpenSpec.ofChange mailOrderSpec)

/-- ITS FALSE NEIGHBOUR: 'it returns false'. Refute it at one input. -/
def mailOrderWrong : ChangeSpec := { name := "mailOrder", fn := fun _ => fun
  | [d1, d2] => { results := [.lit (.bool false)], args := [d1, d2] }
  | _ => none }
def MailOrderWrongFalsely : Prop := mailOrderRow.holds Try.pinned (OpenSpec.ofChange mailOrderWrong)

/-- 'rivuletlaw08.MailTurns': WHATEVER THE INPUT: true; the input reads as it did. -/
def mailTurnsSpec : ChangeSpec := { name := "mailTurns", fn := fun _ => fun
  | [d1, d2] => { results := [.lit (.bool true)], args := [d1, d2] }
  | _ => none }
def mailTurnsRow : OpenClaim := { program := "ytgomnnddfddkhaa", sum := "19f76db8243e2ee42ddbd21317ada3eb6ce26ca1a1a485063dbc70c7cdffde59", func := "rivulet/rivuletlaw08.MailTurns", spec := "mailTurns", unfollowed := true, recurses := true, apart := false }
def MailTurnsSaid : Prop := mailTurnsRow.holds Try.pinned (OpenSpec.ofChange mailTurnsSpec)

/-- ITS FALSE NEIGHBOUR: 'it returns false'. Refute it at one input. -/
def mailTurnsWrong : ChangeSpec := { name := "mailTurns", fn := fun _ => fun
  | [d1, d2] => { results := [.lit (.bool false)], args := [d1, d2] }
  | _ => none }
def MailTurnsWrongFalsely : Prop := mailTurnsRow.holds Try.pinned (OpenSpec.ofChange mailTurnsWrong)

/-- 'rivuletlaw08.MailCopies': WHATEVER THE INPUT: true; the input reads as it did. -/
def mailCopiesSpec : ChangeSpec := { name := "mailCopies", fn := fun _ => fun
  | [d] => { results := [.lit (.bool true)], args := [d] }
  | _ => none }
def mailCopiesRow : OpenClaim := { program := "ytgomnnddfddkhaa", sum := "19f76db8243e2ee42ddbd21317ada3eb6ce26ca1a1a485063dbc70c7cdffde59", func := "rivulet/rivuletlaw08.MailCopies", spec := "mailCopies", unfollowed := true, recurses := true, apart := false }
def MailCopiesSaid : Prop := mailCopiesRow.holds Try.pinned (OpenSpec.ofChange mailCopiesSpec)

/-- ITS FALSE NEIGHBOUR: 'it returns false'. Refute it at one input. -/
def mailCopiesWrong : ChangeSpec := { name := "mailCopies", fn := fun _ => fun
  | [d] => { results := [.lit (.bool false)], args := [d] }
  | _ => none }
def MailCopiesWrongFalsely : Prop := mailCopiesRow.holds Try.pinned (OpenSpec.ofChange mailCopiesWrong)

/-- 'rivuletlaw08.MailRoom': WHATEVER THE INPUT: true; the input reads as it did. -/
def mailRoomSpec : ChangeSpec := { name := "mailRoom", fn := fun _ => fun
  | [d1, d2] => { results := [.lit (.bool true)], args := [d1, d2] }
  | _ => none }
def mailRoomRow : OpenClaim := { program := "ytgomnnddfddkhaa", sum := "19f76db8243e2ee42ddbd21317ada3eb6ce26ca1a1a485063dbc70c7cdffde59", func := "rivulet/rivuletlaw08.MailRoom", spec := "mailRoom", unfollowed := true, recurses := true, apart := false }
def MailRoomSaid : Prop := mailRoomRow.holds Try.pinned (OpenSpec.ofChange mailRoomSpec)

/-- ITS FALSE NEIGHBOUR: 'it returns false'. Refute it at one input. -/
def mailRoomWrong : ChangeSpec := { name := "mailRoom", fn := fun _ => fun
  | [d1, d2] => { results := [.lit (.bool false)], args := [d1, d2] }
  | _ => none }
def MailRoomWrongFalsely : Prop := mailRoomRow.holds Try.pinned (OpenSpec.ofChange mailRoomWrong)

/- THE SECOND FORM. 'bulk': how many values and letters a reading holds, each counted each time it is reached (what is shared counts as often as it is met; a slice's spare places count too). A statement '..UptoSaid' is the law's where the arguments, and the package variables that the reading takes, are together of bulk at most 1048576: NARROWER than '..Said'. Prove '..Said' where nothing that the law and all that it calls make is longer than what came in: it says more and counts as full. Else prove '..UptoSaid'. A law counts once. -/
mutual
def uptoBulk {H : Type} : DataW H → Nat
  | .lit (.string bytes) => bytes.length + 1
  | .lit _ => 1
  | .nil => 1
  | .ptr d => uptoBulk d + 1
  | .slice elems spare => uptoBulkAll elems + uptoBulkAll spare + 1
  | .agg parts => uptoBulkAll parts + 1
  | .iface _ d => uptoBulk d + 1
  | .map entries => uptoBulkEntries entries + 1
  | .held _ => 1
def uptoBulkAll {H : Type} : List (DataW H) → Nat
  | [] => 0
  | d :: r => uptoBulk d + uptoBulkAll r
def uptoBulkEntries {H : Type} : List (Lit × DataW H) → Nat
  | [] => 0
  | x :: r => uptoBulkEntry x + uptoBulkEntries r
def uptoBulkEntry {H : Type} : Lit × DataW H → Nat
  | (.string bytes, d) => bytes.length + uptoBulk d + 1
  | (_, d) => uptoBulk d + 1
 end
def uptoSmall : (H : Type) → List (DataW H) → Bool := fun _ ds => decide (uptoBulkAll ds ≤ 1048576)
def OpenSpec.upto (s : _root_.Go.ChangeSpec) : _root_.Go.OpenSpec := { _root_.Go.OpenSpec.ofChange s with cond := some uptoSmall }

/-- 'rivuletlaw08.MailDoes', WHERE WHAT IT READS IS OF BULK AT MOST 1048576: true; the input reads as it did. -/
def mailDoesUptoRow : OpenClaim := { program := "ytgomnnddfddkhaa", sum := "19f76db8243e2ee42ddbd21317ada3eb6ce26ca1a1a485063dbc70c7cdffde59", func := "rivulet/rivuletlaw08.MailDoes", spec := "mailDoes", unfollowed := true, recurses := true, apart := false, narrowed := true }
def MailDoesUptoSaid : Prop := mailDoesUptoRow.holds Try.pinned (OpenSpec.upto mailDoesSpec)

/-- 'rivuletlaw08.MailNews', WHERE WHAT IT READS IS OF BULK AT MOST 1048576: true; the input reads as it did. -/
def mailNewsUptoRow : OpenClaim := { program := "ytgomnnddfddkhaa", sum := "19f76db8243e2ee42ddbd21317ada3eb6ce26ca1a1a485063dbc70c7cdffde59", func := "rivulet/rivuletlaw08.MailNews", spec := "mailNews", unfollowed := true, recurses := true, apart := false, narrowed := true }
def MailNewsUptoSaid : Prop := mailNewsUptoRow.holds Try.pinned (OpenSpec.upto mailNewsSpec)

/-- 'rivuletlaw08.MailOrder', WHERE WHAT IT READS IS OF BULK AT MOST 1048576: true; the input reads as it did. -/
def mailOrderUptoRow : OpenClaim := { program := "ytgomnnddfddkhaa", sum := "19f76db8243e2ee42ddbd21317ada3eb6ce26ca1a1a485063dbc70c7cdffde59", func := "rivulet/rivuletlaw08.MailOrder", spec := "mailOrder", unfollowed := true, recurses := true, apart := false, narrowed := true }
def MailOrderUptoSaid : Prop := mailOrderUptoRow.holds Try.pinned (OpenSpec.upto mailOrderSpec)

/-- 'rivuletlaw08.MailTurns', WHERE WHAT IT READS IS OF BULK AT MOST 1048576: true; the input reads as it did. -/
def mailTurnsUptoRow : OpenClaim := { program := "ytgomnnddfddkhaa", sum := "19f76db8243e2ee42ddbd21317ada3eb6ce26ca1a1a485063dbc70c7cdffde59", func := "rivulet/rivuletlaw08.MailTurns", spec := "mailTurns", unfollowed := true, recurses := true, apart := false, narrowed := true }
def MailTurnsUptoSaid : Prop := mailTurnsUptoRow.holds Try.pinned (OpenSpec.upto mailTurnsSpec)

/-- 'rivuletlaw08.MailCopies', WHERE WHAT IT READS IS OF BULK AT MOST 1048576: true; the input reads as it did. -/
def mailCopiesUptoRow : OpenClaim := { program := "ytgomnnddfddkhaa", sum := "19f76db8243e2ee42ddbd21317ada3eb6ce26ca1a1a485063dbc70c7cdffde59", func := "rivulet/rivuletlaw08.MailCopies", spec := "mailCopies", unfollowed := true, recurses := true, apart := false, narrowed := true }
def MailCopiesUptoSaid : Prop := mailCopiesUptoRow.holds Try.pinned (OpenSpec.upto mailCopiesSpec)

/-- 'rivuletlaw08.MailRoom', WHERE WHAT IT READS IS OF BULK AT MOST 1048576: true; the input reads as it did. -/
def mailRoomUptoRow : OpenClaim := { program := "ytgomnnddfddkhaa", sum := "19f76db8243e2ee42ddbd21317ada3eb6ce26ca1a1a485063dbc70c7cdffde59", func := "rivulet/rivuletlaw08.MailRoom", spec := "mailRoom", unfollowed := true, recurses := true, apart := false, narrowed := true }
def MailRoomUptoSaid : Prop := mailRoomUptoRow.holds Try.pinned (OpenSpec.upto mailRoomSpec)

end Rows
end Go.Proofs.Ytgomnnddfddkhaa
