/-
  DERIVED. GIVEN WITH THE SEED: THE CARDS: each row of YtfakimleoihfgaaDoorRows.lean that lists a variable, with what it lists TIED to the program's text (the seventh form; the later family's looks); each row that meets fmt, with fmt's text TOLD by the authors' own Lean function (tested against real Go, not proved from fmt's source: count such statements apart). THE CARD IS WHAT COUNTS. Prove the row's statement (the work); the ties are given (YtfakimleoihfgaaDoorTie.lean); close each card by the builder's one call (the guide's Derived/Test/ToyasCard.lean, 'card_holds'). Laid BY PROGRAM, IN A SANDBOX (cutbox-door.mjs). By AI agents, Wed Nov 11 2026. No macro, syntax, notation, axiom, sorry.
-/
import Derived.Test.YtfakimleoihfgaaDoorRows
import GoSem.ClaimSeven
namespace Go.Proofs.YtfakimleoihfgaaDoor
namespace Rows

/-- THE TIED CARD OF 'rivuletlaw03.TopicTells'. -/
def topicTellsCard : Claim7 := { stood := { row := topicTellsRow, standIns := [], harness := (true, "609256ec7be3f1aa1a55813f75c6a96f044fc7ab4ad0f2259ea8415a8dfbe661"), looks := false }, kinds := [], alts := [], laidByText := true, laidKinds := [.data, .pinned], laidTests := true, laidLooks := .later }
def TopicTellsCardSaid : Prop := Claim7.holds Tryd.pinned (.plain (OpenSpec.ofChange topicTellsSpec)) topicTellsCard

/-- THE TIED CARD OF 'rivuletlaw03.TopicLets'. -/
def topicLetsCard : Claim7 := { stood := { row := topicLetsRow, standIns := [], harness := (true, "609256ec7be3f1aa1a55813f75c6a96f044fc7ab4ad0f2259ea8415a8dfbe661"), looks := false }, kinds := [], alts := [], laidByText := true, laidKinds := [.data, .pinned], laidTests := true, laidLooks := .later }
def TopicLetsCardSaid : Prop := Claim7.holds Tryd.pinned (.plain (OpenSpec.ofChange topicLetsSpec)) topicLetsCard

/-- THE TIED CARD OF 'rivuletlaw03.TopicCovers'. -/
def topicCoversCard : Claim7 := { stood := { row := topicCoversRow, standIns := [], harness := (true, "609256ec7be3f1aa1a55813f75c6a96f044fc7ab4ad0f2259ea8415a8dfbe661"), looks := false }, kinds := [], alts := [], laidByText := true, laidKinds := [.data, .pinned], laidTests := true, laidLooks := .later }
def TopicCoversCardSaid : Prop := Claim7.holds Tryd.pinned (.plain (OpenSpec.ofChange topicCoversSpec)) topicCoversCard

/-- THE TIED CARD OF 'rivuletlaw03.TopicOrder'. -/
def topicOrderCard : Claim7 := { stood := { row := topicOrderRow, standIns := [], harness := (true, "609256ec7be3f1aa1a55813f75c6a96f044fc7ab4ad0f2259ea8415a8dfbe661"), looks := false }, kinds := [], alts := [], laidByText := true, laidKinds := [.data, .pinned], laidTests := true, laidLooks := .later }
def TopicOrderCardSaid : Prop := Claim7.holds Tryd.pinned (.plain (OpenSpec.ofChange topicOrderSpec)) topicOrderCard

/-- THE TIED CARD OF 'rivuletlaw03.TopicPlain'. -/
def topicPlainCard : Claim7 := { stood := { row := topicPlainRow, standIns := [], harness := (true, "609256ec7be3f1aa1a55813f75c6a96f044fc7ab4ad0f2259ea8415a8dfbe661"), looks := false }, kinds := [], alts := [], laidByText := true, laidKinds := [.data, .pinned], laidTests := true, laidLooks := .later }
def TopicPlainCardSaid : Prop := Claim7.holds Tryd.pinned (.plain (OpenSpec.ofChange topicPlainSpec)) topicPlainCard

/-- THE TIED CARD OF 'rivuletlaw03.TopicLess'. -/
def topicLessCard : Claim7 := { stood := { row := topicLessRow, standIns := [], harness := (true, "609256ec7be3f1aa1a55813f75c6a96f044fc7ab4ad0f2259ea8415a8dfbe661"), looks := false }, kinds := [], alts := [], laidByText := true, laidKinds := [.data, .pinned], laidTests := true, laidLooks := .later }
def TopicLessCardSaid : Prop := Claim7.holds Tryd.pinned (.plain (OpenSpec.ofChange topicLessSpec)) topicLessCard

/-- THE TIED CARD OF 'rivuletlaw03.TopicWider'. -/
def topicWiderCard : Claim7 := { stood := { row := topicWiderRow, standIns := [], harness := (true, "609256ec7be3f1aa1a55813f75c6a96f044fc7ab4ad0f2259ea8415a8dfbe661"), looks := false }, kinds := [], alts := [], laidByText := true, laidKinds := [.data, .pinned], laidTests := true, laidLooks := .later }
def TopicWiderCardSaid : Prop := Claim7.holds Tryd.pinned (.plain (OpenSpec.ofChange topicWiderSpec)) topicWiderCard

/-- THE TIED CARD OF 'rivuletlaw03.TopicRest'. -/
def topicRestCard : Claim7 := { stood := { row := topicRestRow, standIns := [], harness := (true, "609256ec7be3f1aa1a55813f75c6a96f044fc7ab4ad0f2259ea8415a8dfbe661"), looks := false }, kinds := [], alts := [], laidByText := true, laidKinds := [.data, .pinned], laidTests := true, laidLooks := .later }
def TopicRestCardSaid : Prop := Claim7.holds Tryd.pinned (.plain (OpenSpec.ofChange topicRestSpec)) topicRestCard

/-- THE SECOND FORM's CARD OF 'rivuletlaw03.TopicTells'. -/
def topicTellsUptoCard : Claim7 := { stood := { row := topicTellsUptoRow, standIns := [], harness := (true, "609256ec7be3f1aa1a55813f75c6a96f044fc7ab4ad0f2259ea8415a8dfbe661"), looks := false }, kinds := [], alts := [], laidByText := true, laidKinds := [.data, .pinned], laidTests := true, laidLooks := .later }
def TopicTellsUptoCardSaid : Prop := Claim7.holds Tryd.pinned (.plain (OpenSpec.upto topicTellsSpec)) topicTellsUptoCard

/-- THE SECOND FORM's CARD OF 'rivuletlaw03.TopicLets'. -/
def topicLetsUptoCard : Claim7 := { stood := { row := topicLetsUptoRow, standIns := [], harness := (true, "609256ec7be3f1aa1a55813f75c6a96f044fc7ab4ad0f2259ea8415a8dfbe661"), looks := false }, kinds := [], alts := [], laidByText := true, laidKinds := [.data, .pinned], laidTests := true, laidLooks := .later }
def TopicLetsUptoCardSaid : Prop := Claim7.holds Tryd.pinned (.plain (OpenSpec.upto topicLetsSpec)) topicLetsUptoCard

/-- THE SECOND FORM's CARD OF 'rivuletlaw03.TopicCovers'. -/
def topicCoversUptoCard : Claim7 := { stood := { row := topicCoversUptoRow, standIns := [], harness := (true, "609256ec7be3f1aa1a55813f75c6a96f044fc7ab4ad0f2259ea8415a8dfbe661"), looks := false }, kinds := [], alts := [], laidByText := true, laidKinds := [.data, .pinned], laidTests := true, laidLooks := .later }
def TopicCoversUptoCardSaid : Prop := Claim7.holds Tryd.pinned (.plain (OpenSpec.upto topicCoversSpec)) topicCoversUptoCard

/-- THE SECOND FORM's CARD OF 'rivuletlaw03.TopicOrder'. -/
def topicOrderUptoCard : Claim7 := { stood := { row := topicOrderUptoRow, standIns := [], harness := (true, "609256ec7be3f1aa1a55813f75c6a96f044fc7ab4ad0f2259ea8415a8dfbe661"), looks := false }, kinds := [], alts := [], laidByText := true, laidKinds := [.data, .pinned], laidTests := true, laidLooks := .later }
def TopicOrderUptoCardSaid : Prop := Claim7.holds Tryd.pinned (.plain (OpenSpec.upto topicOrderSpec)) topicOrderUptoCard

/-- THE SECOND FORM's CARD OF 'rivuletlaw03.TopicPlain'. -/
def topicPlainUptoCard : Claim7 := { stood := { row := topicPlainUptoRow, standIns := [], harness := (true, "609256ec7be3f1aa1a55813f75c6a96f044fc7ab4ad0f2259ea8415a8dfbe661"), looks := false }, kinds := [], alts := [], laidByText := true, laidKinds := [.data, .pinned], laidTests := true, laidLooks := .later }
def TopicPlainUptoCardSaid : Prop := Claim7.holds Tryd.pinned (.plain (OpenSpec.upto topicPlainSpec)) topicPlainUptoCard

/-- THE SECOND FORM's CARD OF 'rivuletlaw03.TopicLess'. -/
def topicLessUptoCard : Claim7 := { stood := { row := topicLessUptoRow, standIns := [], harness := (true, "609256ec7be3f1aa1a55813f75c6a96f044fc7ab4ad0f2259ea8415a8dfbe661"), looks := false }, kinds := [], alts := [], laidByText := true, laidKinds := [.data, .pinned], laidTests := true, laidLooks := .later }
def TopicLessUptoCardSaid : Prop := Claim7.holds Tryd.pinned (.plain (OpenSpec.upto topicLessSpec)) topicLessUptoCard

/-- THE SECOND FORM's CARD OF 'rivuletlaw03.TopicWider'. -/
def topicWiderUptoCard : Claim7 := { stood := { row := topicWiderUptoRow, standIns := [], harness := (true, "609256ec7be3f1aa1a55813f75c6a96f044fc7ab4ad0f2259ea8415a8dfbe661"), looks := false }, kinds := [], alts := [], laidByText := true, laidKinds := [.data, .pinned], laidTests := true, laidLooks := .later }
def TopicWiderUptoCardSaid : Prop := Claim7.holds Tryd.pinned (.plain (OpenSpec.upto topicWiderSpec)) topicWiderUptoCard

/-- THE SECOND FORM's CARD OF 'rivuletlaw03.TopicRest'. -/
def topicRestUptoCard : Claim7 := { stood := { row := topicRestUptoRow, standIns := [], harness := (true, "609256ec7be3f1aa1a55813f75c6a96f044fc7ab4ad0f2259ea8415a8dfbe661"), looks := false }, kinds := [], alts := [], laidByText := true, laidKinds := [.data, .pinned], laidTests := true, laidLooks := .later }
def TopicRestUptoCardSaid : Prop := Claim7.holds Tryd.pinned (.plain (OpenSpec.upto topicRestSpec)) topicRestUptoCard
end Rows
end Go.Proofs.YtfakimleoihfgaaDoor
