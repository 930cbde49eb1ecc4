/-
  NARROWER THAN 'FOR EVERY INPUT', by the rows' own cells (each row's printed sentence says how): TopicTells: laid · TopicLets: laid · TopicCovers: laid · TopicOrder: laid · TopicPlain: laid · TopicLess: laid · TopicWider: laid · TopicRest: laid.
  DERIVED. THE GIVEN ROWS OF THIS SEAT. 8 by the template 'for every input the law returns true; each argument reads behind the call as it read before'; 0 by the template 'total and deterministic' (their statements: YtfakimleoihfgaaDoorTotals.lean).
  GIVEN WITH THE SEED: the statements are not yours to turn. If you find one false, say at which input.
  Laid BY PROGRAM, IN A SANDBOX (cutbox-rows.mjs): the forced cells as the released guide's own fill.sh prints them over the translation 05264667a090839e… (all of the seat's roots in one cut). By AI agents, Wed Nov 11 2026. No macro, syntax, notation, axiom, sorry.
-/
import Derived.Test.YtfakimleoihfgaaDoorChecked
import GoSem.PinnedTables
import GoSem.Claim
import GoSem.ClaimJoined
import GoSem.ClaimMapViews
import Derived.JoinedTies
import Derived.KernelRfl
namespace Go.Proofs.YtfakimleoihfgaaDoor
/- THE CELL 'sum', in the pinned program and in every row, IS THE sha256 OF THE DUMP (.gsa) THAT YtfakimleoihfgaaDoorProg.lean LOADS. Nothing in Lean hashes anything: it is a label: what it is worth is what the hold of that sum in a sandbox is worth. -/
noncomputable def Tryd.pinned : Pinned := { name := "ytfakimleoihfgaadoor", sum := "05264667a090839e7653362889bda81a04ec162cc4452afb5be77500b6505a7e", checked := Tryd.checked }
namespace Rows
def none {H : Type} : Left H := { results := [], args := [] }

/- WHAT THE LISTED PACKAGE-LEVEL VARIABLES READ AS WHEN THE CALL BEGINS. Each datum BY PROGRAM (the guide's laid-datum.mjs) off the statement by which the dump's own 'gosem.cut.vars' lays the variable. In a bare row this is a premise. The card (YtfakimleoihfgaaDoorCards.lean) ties it to the program's text. -/
def laid_unicode_utf8_acceptRanges {H : Type} : DataW H := .agg [.agg [.lit (.int .u8 128), .lit (.int .u8 191)], .agg [.lit (.int .u8 160), .lit (.int .u8 191)], .agg [.lit (.int .u8 128), .lit (.int .u8 159)], .agg [.lit (.int .u8 144), .lit (.int .u8 191)], .agg [.lit (.int .u8 128), .lit (.int .u8 143)], .agg [.lit (.int .u8 0), .lit (.int .u8 0)], .agg [.lit (.int .u8 0), .lit (.int .u8 0)], .agg [.lit (.int .u8 0), .lit (.int .u8 0)], .agg [.lit (.int .u8 0), .lit (.int .u8 0)], .agg [.lit (.int .u8 0), .lit (.int .u8 0)], .agg [.lit (.int .u8 0), .lit (.int .u8 0)], .agg [.lit (.int .u8 0), .lit (.int .u8 0)], .agg [.lit (.int .u8 0), .lit (.int .u8 0)], .agg [.lit (.int .u8 0), .lit (.int .u8 0)], .agg [.lit (.int .u8 0), .lit (.int .u8 0)], .agg [.lit (.int .u8 0), .lit (.int .u8 0)]]
/-- One of Go's own tables, pinned by name: the form's constant. -/
def laid_unicode_utf8_first : DataW Unit := Go.Pinned.utf8First

/-- 'rivuletlaw03.TopicTells': WHATEVER THE INPUT: true; the input reads as it did. -/
def topicTellsSpec : ChangeSpec := { name := "topicTells", fn := fun _ => fun
  | [d1, d2] => { results := [.lit (.bool true)], args := [d1, d2] }
  | _ => none }
def topicTellsRow : OpenClaim := { program := "ytfakimleoihfgaadoor", sum := "05264667a090839e7653362889bda81a04ec162cc4452afb5be77500b6505a7e", func := "rivulet/rivuletlaw03.TopicTells", spec := "topicTells", inPlace := ["internal/bytealg.IndexByteString", "internal/bytealg.IndexString"], unfollowed := true, recurses := true, named := ["unicode/utf8.first", "unicode/utf8.acceptRanges", "internal/bytealg.MaxLen"], apart := false, laid := [("unicode/utf8.acceptRanges", laid_unicode_utf8_acceptRanges), ("unicode/utf8.first", laid_unicode_utf8_first)] }
def TopicTellsSaid : Prop := topicTellsRow.holds Tryd.pinned (OpenSpec.ofChange topicTellsSpec)

/-- ITS FALSE NEIGHBOUR: 'it returns false'. Refute it at one input. -/
def topicTellsWrong : ChangeSpec := { name := "topicTells", fn := fun _ => fun
  | [d1, d2] => { results := [.lit (.bool false)], args := [d1, d2] }
  | _ => none }
def TopicTellsWrongFalsely : Prop := topicTellsRow.holds Tryd.pinned (OpenSpec.ofChange topicTellsWrong)

/-- 'rivuletlaw03.TopicLets': WHATEVER THE INPUT: true; the input reads as it did. -/
def topicLetsSpec : ChangeSpec := { name := "topicLets", fn := fun _ => fun
  | [d1, d2, d3] => { results := [.lit (.bool true)], args := [d1, d2, d3] }
  | _ => none }
def topicLetsRow : OpenClaim := { program := "ytfakimleoihfgaadoor", sum := "05264667a090839e7653362889bda81a04ec162cc4452afb5be77500b6505a7e", func := "rivulet/rivuletlaw03.TopicLets", spec := "topicLets", inPlace := ["internal/bytealg.IndexByteString", "internal/bytealg.IndexString"], unfollowed := true, recurses := true, named := ["unicode/utf8.first", "unicode/utf8.acceptRanges", "internal/bytealg.MaxLen"], apart := false, laid := [("unicode/utf8.acceptRanges", laid_unicode_utf8_acceptRanges), ("unicode/utf8.first", laid_unicode_utf8_first)] }
def TopicLetsSaid : Prop := topicLetsRow.holds Tryd.pinned (OpenSpec.ofChange topicLetsSpec)

/-- ITS FALSE NEIGHBOUR: 'it returns false'. Refute it at one input. -/
def topicLetsWrong : ChangeSpec := { name := "topicLets", fn := fun _ => fun
  | [d1, d2, d3] => { results := [.lit (.bool false)], args := [d1, d2, d3] }
  | _ => none }
def TopicLetsWrongFalsely : Prop := topicLetsRow.holds Tryd.pinned (OpenSpec.ofChange topicLetsWrong)

/-- 'rivuletlaw03.TopicCovers': WHATEVER THE INPUT: true; the input reads as it did. -/
def topicCoversSpec : ChangeSpec := { name := "topicCovers", fn := fun _ => fun
  | [d1, d2] => { results := [.lit (.bool true)], args := [d1, d2] }
  | _ => none }
def topicCoversRow : OpenClaim := { program := "ytfakimleoihfgaadoor", sum := "05264667a090839e7653362889bda81a04ec162cc4452afb5be77500b6505a7e", func := "rivulet/rivuletlaw03.TopicCovers", spec := "topicCovers", inPlace := ["internal/bytealg.IndexByteString", "internal/bytealg.IndexString"], unfollowed := true, recurses := true, named := ["unicode/utf8.first", "unicode/utf8.acceptRanges", "internal/bytealg.MaxLen"], apart := false, laid := [("unicode/utf8.acceptRanges", laid_unicode_utf8_acceptRanges), ("unicode/utf8.first", laid_unicode_utf8_first)] }
def TopicCoversSaid : Prop := topicCoversRow.holds Tryd.pinned (OpenSpec.ofChange topicCoversSpec)

/-- ITS FALSE NEIGHBOUR: 'it returns false'. Refute it at one input. -/
def topicCoversWrong : ChangeSpec := { name := "topicCovers", fn := fun _ => fun
  | [d1, d2] => { results := [.lit (.bool false)], args := [d1, d2] }
  | _ => none }
def TopicCoversWrongFalsely : Prop := topicCoversRow.holds Tryd.pinned (OpenSpec.ofChange topicCoversWrong)

/-- 'rivuletlaw03.TopicOrder': WHATEVER THE INPUT: true; the input reads as it did. -/
def topicOrderSpec : ChangeSpec := { name := "topicOrder", fn := fun _ => fun
  | [d1, d2, d3] => { results := [.lit (.bool true)], args := [d1, d2, d3] }
  | _ => none }
def topicOrderRow : OpenClaim := { program := "ytfakimleoihfgaadoor", sum := "05264667a090839e7653362889bda81a04ec162cc4452afb5be77500b6505a7e", func := "rivulet/rivuletlaw03.TopicOrder", spec := "topicOrder", inPlace := ["internal/bytealg.IndexByteString", "internal/bytealg.IndexString"], unfollowed := true, recurses := true, named := ["unicode/utf8.first", "unicode/utf8.acceptRanges", "internal/bytealg.MaxLen"], apart := false, laid := [("unicode/utf8.acceptRanges", laid_unicode_utf8_acceptRanges), ("unicode/utf8.first", laid_unicode_utf8_first)] }
def TopicOrderSaid : Prop := topicOrderRow.holds Tryd.pinned (OpenSpec.ofChange topicOrderSpec)

/-- ITS FALSE NEIGHBOUR: 'it returns false'. Refute it at one input. -/
def topicOrderWrong : ChangeSpec := { name := "topicOrder", fn := fun _ => fun
  | [d1, d2, d3] => { results := [.lit (.bool false)], args := [d1, d2, d3] }
  | _ => none }
def TopicOrderWrongFalsely : Prop := topicOrderRow.holds Tryd.pinned (OpenSpec.ofChange topicOrderWrong)

/-- 'rivuletlaw03.TopicPlain': WHATEVER THE INPUT: true; the input reads as it did. -/
def topicPlainSpec : ChangeSpec := { name := "topicPlain", fn := fun _ => fun
  | [d1, d2] => { results := [.lit (.bool true)], args := [d1, d2] }
  | _ => none }
def topicPlainRow : OpenClaim := { program := "ytfakimleoihfgaadoor", sum := "05264667a090839e7653362889bda81a04ec162cc4452afb5be77500b6505a7e", func := "rivulet/rivuletlaw03.TopicPlain", spec := "topicPlain", inPlace := ["internal/bytealg.IndexByteString", "internal/bytealg.IndexString"], unfollowed := true, recurses := true, named := ["unicode/utf8.first", "unicode/utf8.acceptRanges", "internal/bytealg.MaxLen"], apart := false, laid := [("unicode/utf8.acceptRanges", laid_unicode_utf8_acceptRanges), ("unicode/utf8.first", laid_unicode_utf8_first)] }
def TopicPlainSaid : Prop := topicPlainRow.holds Tryd.pinned (OpenSpec.ofChange topicPlainSpec)

/-- ITS FALSE NEIGHBOUR: 'it returns false'. Refute it at one input. -/
def topicPlainWrong : ChangeSpec := { name := "topicPlain", fn := fun _ => fun
  | [d1, d2] => { results := [.lit (.bool false)], args := [d1, d2] }
  | _ => none }
def TopicPlainWrongFalsely : Prop := topicPlainRow.holds Tryd.pinned (OpenSpec.ofChange topicPlainWrong)

/-- 'rivuletlaw03.TopicLess': WHATEVER THE INPUT: true; the input reads as it did. -/
def topicLessSpec : ChangeSpec := { name := "topicLess", fn := fun _ => fun
  | [d1, d2, d3] => { results := [.lit (.bool true)], args := [d1, d2, d3] }
  | _ => none }
def topicLessRow : OpenClaim := { program := "ytfakimleoihfgaadoor", sum := "05264667a090839e7653362889bda81a04ec162cc4452afb5be77500b6505a7e", func := "rivulet/rivuletlaw03.TopicLess", spec := "topicLess", inPlace := ["internal/bytealg.IndexByteString", "internal/bytealg.IndexString"], unfollowed := true, recurses := true, named := ["unicode/utf8.first", "unicode/utf8.acceptRanges", "internal/bytealg.MaxLen"], apart := false, laid := [("unicode/utf8.acceptRanges", laid_unicode_utf8_acceptRanges), ("unicode/utf8.first", laid_unicode_utf8_first)] }
def TopicLessSaid : Prop := topicLessRow.holds Tryd.pinned (OpenSpec.ofChange topicLessSpec)

/-- ITS FALSE NEIGHBOUR: 'it returns false'. Refute it at one input. -/
def topicLessWrong : ChangeSpec := { name := "topicLess", fn := fun _ => fun
  | [d1, d2, d3] => { results := [.lit (.bool false)], args := [d1, d2, d3] }
  | _ => none }
def TopicLessWrongFalsely : Prop := topicLessRow.holds Tryd.pinned (OpenSpec.ofChange topicLessWrong)

/-- 'rivuletlaw03.TopicWider': WHATEVER THE INPUT: true; the input reads as it did. -/
def topicWiderSpec : ChangeSpec := { name := "topicWider", fn := fun _ => fun
  | [d1, d2] => { results := [.lit (.bool true)], args := [d1, d2] }
  | _ => none }
def topicWiderRow : OpenClaim := { program := "ytfakimleoihfgaadoor", sum := "05264667a090839e7653362889bda81a04ec162cc4452afb5be77500b6505a7e", func := "rivulet/rivuletlaw03.TopicWider", spec := "topicWider", inPlace := ["internal/bytealg.IndexByteString", "internal/bytealg.IndexString"], unfollowed := true, recurses := true, named := ["unicode/utf8.first", "unicode/utf8.acceptRanges", "internal/bytealg.MaxLen"], apart := false, laid := [("unicode/utf8.acceptRanges", laid_unicode_utf8_acceptRanges), ("unicode/utf8.first", laid_unicode_utf8_first)] }
def TopicWiderSaid : Prop := topicWiderRow.holds Tryd.pinned (OpenSpec.ofChange topicWiderSpec)

/-- ITS FALSE NEIGHBOUR: 'it returns false'. Refute it at one input. -/
def topicWiderWrong : ChangeSpec := { name := "topicWider", fn := fun _ => fun
  | [d1, d2] => { results := [.lit (.bool false)], args := [d1, d2] }
  | _ => none }
def TopicWiderWrongFalsely : Prop := topicWiderRow.holds Tryd.pinned (OpenSpec.ofChange topicWiderWrong)

/-- 'rivuletlaw03.TopicRest': WHATEVER THE INPUT: true; the input reads as it did. -/
def topicRestSpec : ChangeSpec := { name := "topicRest", fn := fun _ => fun
  | [d1, d2] => { results := [.lit (.bool true)], args := [d1, d2] }
  | _ => none }
def topicRestRow : OpenClaim := { program := "ytfakimleoihfgaadoor", sum := "05264667a090839e7653362889bda81a04ec162cc4452afb5be77500b6505a7e", func := "rivulet/rivuletlaw03.TopicRest", spec := "topicRest", inPlace := ["internal/bytealg.IndexByteString", "internal/bytealg.IndexString"], unfollowed := true, recurses := true, named := ["unicode/utf8.first", "unicode/utf8.acceptRanges", "internal/bytealg.MaxLen"], apart := false, laid := [("unicode/utf8.acceptRanges", laid_unicode_utf8_acceptRanges), ("unicode/utf8.first", laid_unicode_utf8_first)] }
def TopicRestSaid : Prop := topicRestRow.holds Tryd.pinned (OpenSpec.ofChange topicRestSpec)

/-- ITS FALSE NEIGHBOUR: 'it returns false'. Refute it at one input. -/
def topicRestWrong : ChangeSpec := { name := "topicRest", fn := fun _ => fun
  | [d1, d2] => { results := [.lit (.bool false)], args := [d1, d2] }
  | _ => none }
def TopicRestWrongFalsely : Prop := topicRestRow.holds Tryd.pinned (OpenSpec.ofChange topicRestWrong)

/- THE SECOND FORM. 'bulk': how many values and letters a reading holds, each counted each time it is reached (what is shared counts as often as it is met; a slice's spare places count too). A statement '..UptoSaid' is the law's where the arguments, and the package variables that the reading takes, are together of bulk at most 1048576: NARROWER than '..Said'. Prove '..Said' where nothing that the law and all that it calls make is longer than what came in: it says more and counts as full. Else prove '..UptoSaid'. A law counts once. -/
mutual
def uptoBulk {H : Type} : DataW H → Nat
  | .lit (.string bytes) => bytes.length + 1
  | .lit _ => 1
  | .nil => 1
  | .ptr d => uptoBulk d + 1
  | .slice elems spare => uptoBulkAll elems + uptoBulkAll spare + 1
  | .agg parts => uptoBulkAll parts + 1
  | .iface _ d => uptoBulk d + 1
  | .map entries => uptoBulkEntries entries + 1
  | .held _ => 1
def uptoBulkAll {H : Type} : List (DataW H) → Nat
  | [] => 0
  | d :: r => uptoBulk d + uptoBulkAll r
def uptoBulkEntries {H : Type} : List (Lit × DataW H) → Nat
  | [] => 0
  | x :: r => uptoBulkEntry x + uptoBulkEntries r
def uptoBulkEntry {H : Type} : Lit × DataW H → Nat
  | (.string bytes, d) => bytes.length + uptoBulk d + 1
  | (_, d) => uptoBulk d + 1
 end
def uptoSmall : (H : Type) → List (DataW H) → Bool := fun _ ds => decide (uptoBulkAll ds ≤ 1048576)
def OpenSpec.upto (s : _root_.Go.ChangeSpec) : _root_.Go.OpenSpec := { _root_.Go.OpenSpec.ofChange s with cond := some uptoSmall }

/-- 'rivuletlaw03.TopicTells', WHERE WHAT IT READS IS OF BULK AT MOST 1048576: true; the input reads as it did. -/
def topicTellsUptoRow : OpenClaim := { program := "ytfakimleoihfgaadoor", sum := "05264667a090839e7653362889bda81a04ec162cc4452afb5be77500b6505a7e", func := "rivulet/rivuletlaw03.TopicTells", spec := "topicTells", inPlace := ["internal/bytealg.IndexByteString", "internal/bytealg.IndexString"], unfollowed := true, recurses := true, named := ["unicode/utf8.first", "unicode/utf8.acceptRanges", "internal/bytealg.MaxLen"], apart := false, laid := [("unicode/utf8.acceptRanges", laid_unicode_utf8_acceptRanges), ("unicode/utf8.first", laid_unicode_utf8_first)], narrowed := true }
def TopicTellsUptoSaid : Prop := topicTellsUptoRow.holds Tryd.pinned (OpenSpec.upto topicTellsSpec)

/-- 'rivuletlaw03.TopicLets', WHERE WHAT IT READS IS OF BULK AT MOST 1048576: true; the input reads as it did. -/
def topicLetsUptoRow : OpenClaim := { program := "ytfakimleoihfgaadoor", sum := "05264667a090839e7653362889bda81a04ec162cc4452afb5be77500b6505a7e", func := "rivulet/rivuletlaw03.TopicLets", spec := "topicLets", inPlace := ["internal/bytealg.IndexByteString", "internal/bytealg.IndexString"], unfollowed := true, recurses := true, named := ["unicode/utf8.first", "unicode/utf8.acceptRanges", "internal/bytealg.MaxLen"], apart := false, laid := [("unicode/utf8.acceptRanges", laid_unicode_utf8_acceptRanges), ("unicode/utf8.first", laid_unicode_utf8_first)], narrowed := true }
def TopicLetsUptoSaid : Prop := topicLetsUptoRow.holds Tryd.pinned (OpenSpec.upto topicLetsSpec)

/-- 'rivuletlaw03.TopicCovers', WHERE WHAT IT READS IS OF BULK AT MOST 1048576: true; the input reads as it did. -/
def topicCoversUptoRow : OpenClaim := { program := "ytfakimleoihfgaadoor", sum := "05264667a090839e7653362889bda81a04ec162cc4452afb5be77500b6505a7e", func := "rivulet/rivuletlaw03.TopicCovers", spec := "topicCovers", inPlace := ["internal/bytealg.IndexByteString", "internal/bytealg.IndexString"], unfollowed := true, recurses := true, named := ["unicode/utf8.first", "unicode/utf8.acceptRanges", "internal/bytealg.MaxLen"], apart := false, laid := [("unicode/utf8.acceptRanges", laid_unicode_utf8_acceptRanges), ("unicode/utf8.first", laid_unicode_utf8_first)], narrowed := true }
def TopicCoversUptoSaid : Prop := topicCoversUptoRow.holds Tryd.pinned (OpenSpec.upto topicCoversSpec)

/-- 'rivuletlaw03.TopicOrder', WHERE WHAT IT READS IS OF BULK AT MOST 1048576: true; the input reads as it did. -/
def topicOrderUptoRow : OpenClaim := { program := "ytfakimleoihfgaadoor", sum := "05264667a090839e7653362889bda81a04ec162cc4452afb5be77500b6505a7e", func := "rivulet/rivuletlaw03.TopicOrder", spec := "topicOrder", inPlace := ["internal/bytealg.IndexByteString", "internal/bytealg.IndexString"], unfollowed := true, recurses := true, named := ["unicode/utf8.first", "unicode/utf8.acceptRanges", "internal/bytealg.MaxLen"], apart := false, laid := [("unicode/utf8.acceptRanges", laid_unicode_utf8_acceptRanges), ("unicode/utf8.first", laid_unicode_utf8_first)], narrowed := true }
def TopicOrderUptoSaid : Prop := topicOrderUptoRow.holds Tryd.pinned (OpenSpec.upto topicOrderSpec)

/-- 'rivuletlaw03.TopicPlain', WHERE WHAT IT READS IS OF BULK AT MOST 1048576: true; the input reads as it did. -/
def topicPlainUptoRow : OpenClaim := { program := "ytfakimleoihfgaadoor", sum := "05264667a090839e7653362889bda81a04ec162cc4452afb5be77500b6505a7e", func := "rivulet/rivuletlaw03.TopicPlain", spec := "topicPlain", inPlace := ["internal/bytealg.IndexByteString", "internal/bytealg.IndexString"], unfollowed := true, recurses := true, named := ["unicode/utf8.first", "unicode/utf8.acceptRanges", "internal/bytealg.MaxLen"], apart := false, laid := [("unicode/utf8.acceptRanges", laid_unicode_utf8_acceptRanges), ("unicode/utf8.first", laid_unicode_utf8_first)], narrowed := true }
def TopicPlainUptoSaid : Prop := topicPlainUptoRow.holds Tryd.pinned (OpenSpec.upto topicPlainSpec)

/-- 'rivuletlaw03.TopicLess', WHERE WHAT IT READS IS OF BULK AT MOST 1048576: true; the input reads as it did. -/
def topicLessUptoRow : OpenClaim := { program := "ytfakimleoihfgaadoor", sum := "05264667a090839e7653362889bda81a04ec162cc4452afb5be77500b6505a7e", func := "rivulet/rivuletlaw03.TopicLess", spec := "topicLess", inPlace := ["internal/bytealg.IndexByteString", "internal/bytealg.IndexString"], unfollowed := true, recurses := true, named := ["unicode/utf8.first", "unicode/utf8.acceptRanges", "internal/bytealg.MaxLen"], apart := false, laid := [("unicode/utf8.acceptRanges", laid_unicode_utf8_acceptRanges), ("unicode/utf8.first", laid_unicode_utf8_first)], narrowed := true }
def TopicLessUptoSaid : Prop := topicLessUptoRow.holds Tryd.pinned (OpenSpec.upto topicLessSpec)

/-- 'rivuletlaw03.TopicWider', WHERE WHAT IT READS IS OF BULK AT MOST 1048576: true; the input reads as it did. -/
def topicWiderUptoRow : OpenClaim := { program := "ytfakimleoihfgaadoor", sum := "05264667a090839e7653362889bda81a04ec162cc4452afb5be77500b6505a7e", func := "rivulet/rivuletlaw03.TopicWider", spec := "topicWider", inPlace := ["internal/bytealg.IndexByteString", "internal/bytealg.IndexString"], unfollowed := true, recurses := true, named := ["unicode/utf8.first", "unicode/utf8.acceptRanges", "internal/bytealg.MaxLen"], apart := false, laid := [("unicode/utf8.acceptRanges", laid_unicode_utf8_acceptRanges), ("unicode/utf8.first", laid_unicode_utf8_first)], narrowed := true }
def TopicWiderUptoSaid : Prop := topicWiderUptoRow.holds Tryd.pinned (OpenSpec.upto topicWiderSpec)

/-- 'rivuletlaw03.TopicRest', WHERE WHAT IT READS IS OF BULK AT MOST 1048576: true; the input reads as it did. -/
def topicRestUptoRow : OpenClaim := { program := "ytfakimleoihfgaadoor", sum := "05264667a090839e7653362889bda81a04ec162cc4452afb5be77500b6505a7e", func := "rivulet/rivuletlaw03.TopicRest", spec := "topicRest", inPlace := ["internal/bytealg.IndexByteString", "internal/bytealg.IndexString"], unfollowed := true, recurses := true, named := ["unicode/utf8.first", "unicode/utf8.acceptRanges", "internal/bytealg.MaxLen"], apart := false, laid := [("unicode/utf8.acceptRanges", laid_unicode_utf8_acceptRanges), ("unicode/utf8.first", laid_unicode_utf8_first)], narrowed := true }
def TopicRestUptoSaid : Prop := topicRestUptoRow.holds Tryd.pinned (OpenSpec.upto topicRestSpec)

end Rows
end Go.Proofs.YtfakimleoihfgaaDoor
