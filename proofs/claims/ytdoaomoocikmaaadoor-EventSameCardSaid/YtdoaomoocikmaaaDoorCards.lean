/-
  DERIVED. GIVEN WITH THE SEED: THE CARDS: each row of YtdoaomoocikmaaaDoorRows.lean that lists a variable, with what it lists TIED to the program's text (the seventh form; the later family's looks); each row that meets fmt, with fmt's text TOLD by the authors' own Lean function (tested against real Go, not proved from fmt's source: count such statements apart). THE CARD IS WHAT COUNTS. Prove the row's statement (the work); the ties are given (YtdoaomoocikmaaaDoorTie.lean); close each card by the builder's one call (the guide's Derived/Test/ToyasCard.lean, 'card_holds'). Laid BY PROGRAM, IN A SANDBOX (cutbox-door.mjs). By AI agents, Wed Nov 11 2026. No macro, syntax, notation, axiom, sorry.
-/
import Derived.Test.YtdoaomoocikmaaaDoorRows
import GoSem.ClaimSeven
namespace Go.Proofs.YtdoaomoocikmaaaDoor
namespace Rows

/-- THE TIED CARD OF 'rivuletlaw06.EventPuts'. -/
def eventPutsCard : Claim7 := { stood := { row := eventPutsRow, standIns := [], harness := (true, "d2502a477be97507348015fadae186601cdcc32b8086423c0a5d68e8774b3432"), looks := false }, kinds := [], alts := [], laidByText := true, laidKinds := [.data, .data, .data, .data, .pinned], laidTests := true, laidLooks := .later }
def EventPutsCardSaid : Prop := Claim7.holds Tryd.pinned (.plain (OpenSpec.ofChange eventPutsSpec)) eventPutsCard

/-- THE TIED CARD OF 'rivuletlaw06.EventGets'. -/
def eventGetsCard : Claim7 := { stood := { row := eventGetsRow, standIns := [], harness := (true, "d2502a477be97507348015fadae186601cdcc32b8086423c0a5d68e8774b3432"), looks := false }, kinds := [], alts := [], laidByText := true, laidKinds := [.data, .data, .data, .data, .pinned], laidTests := true, laidLooks := .later }
def EventGetsCardSaid : Prop := Claim7.holds Tryd.pinned (.plain (OpenSpec.ofChange eventGetsSpec)) eventGetsCard

/-- THE TIED CARD OF 'rivuletlaw06.EventMarks'. -/
def eventMarksCard : Claim7 := { stood := { row := eventMarksRow, standIns := [], harness := (true, "d2502a477be97507348015fadae186601cdcc32b8086423c0a5d68e8774b3432"), looks := false }, kinds := [], alts := [], laidByText := true, laidKinds := [.data, .data, .data, .data, .pinned], laidTests := true, laidLooks := .later }
def EventMarksCardSaid : Prop := Claim7.holds Tryd.pinned (.plain (OpenSpec.ofChange eventMarksSpec)) eventMarksCard

/-- THE TIED CARD OF 'rivuletlaw06.EventBack'. -/
def eventBackCard : Claim7 := { stood := { row := eventBackRow, standIns := [], harness := (true, "d2502a477be97507348015fadae186601cdcc32b8086423c0a5d68e8774b3432"), looks := false }, kinds := [], alts := [], laidByText := true, laidKinds := [.data, .data, .data, .data, .pinned], laidTests := true, laidLooks := .later }
def EventBackCardSaid : Prop := Claim7.holds Tryd.pinned (.plain (OpenSpec.ofChange eventBackSpec)) eventBackCard

/-- THE TIED CARD OF 'rivuletlaw06.EventAges'. -/
def eventAgesCard : Claim7 := { stood := { row := eventAgesRow, standIns := [], harness := (true, "d2502a477be97507348015fadae186601cdcc32b8086423c0a5d68e8774b3432"), looks := false }, kinds := [], alts := [], laidByText := true, laidKinds := [.data, .data, .data, .data, .pinned], laidTests := true, laidLooks := .later }
def EventAgesCardSaid : Prop := Claim7.holds Tryd.pinned (.plain (OpenSpec.ofChange eventAgesSpec)) eventAgesCard

/-- THE TIED CARD OF 'rivuletlaw06.EventCuts'. -/
def eventCutsCard : Claim7 := { stood := { row := eventCutsRow, standIns := [], harness := (true, "d2502a477be97507348015fadae186601cdcc32b8086423c0a5d68e8774b3432"), looks := false }, kinds := [], alts := [], laidByText := true, laidKinds := [.data, .data, .data, .data, .pinned], laidTests := true, laidLooks := .later }
def EventCutsCardSaid : Prop := Claim7.holds Tryd.pinned (.plain (OpenSpec.ofChange eventCutsSpec)) eventCutsCard

/-- THE TIED CARD OF 'rivuletlaw06.EventSame'. -/
def eventSameCard : Claim7 := { stood := { row := eventSameRow, standIns := [], harness := (true, "d2502a477be97507348015fadae186601cdcc32b8086423c0a5d68e8774b3432"), looks := false }, kinds := [], alts := [], laidByText := true, laidKinds := [.data, .data, .data, .data, .pinned], laidTests := true, laidLooks := .later }
def EventSameCardSaid : Prop := Claim7.holds Tryd.pinned (.plain (OpenSpec.ofChange eventSameSpec)) eventSameCard

/-- THE SECOND FORM's CARD OF 'rivuletlaw06.EventPuts'. -/
def eventPutsUptoCard : Claim7 := { stood := { row := eventPutsUptoRow, standIns := [], harness := (true, "d2502a477be97507348015fadae186601cdcc32b8086423c0a5d68e8774b3432"), looks := false }, kinds := [], alts := [], laidByText := true, laidKinds := [.data, .data, .data, .data, .pinned], laidTests := true, laidLooks := .later }
def EventPutsUptoCardSaid : Prop := Claim7.holds Tryd.pinned (.plain (OpenSpec.upto eventPutsSpec)) eventPutsUptoCard

/-- THE SECOND FORM's CARD OF 'rivuletlaw06.EventGets'. -/
def eventGetsUptoCard : Claim7 := { stood := { row := eventGetsUptoRow, standIns := [], harness := (true, "d2502a477be97507348015fadae186601cdcc32b8086423c0a5d68e8774b3432"), looks := false }, kinds := [], alts := [], laidByText := true, laidKinds := [.data, .data, .data, .data, .pinned], laidTests := true, laidLooks := .later }
def EventGetsUptoCardSaid : Prop := Claim7.holds Tryd.pinned (.plain (OpenSpec.upto eventGetsSpec)) eventGetsUptoCard

/-- THE SECOND FORM's CARD OF 'rivuletlaw06.EventMarks'. -/
def eventMarksUptoCard : Claim7 := { stood := { row := eventMarksUptoRow, standIns := [], harness := (true, "d2502a477be97507348015fadae186601cdcc32b8086423c0a5d68e8774b3432"), looks := false }, kinds := [], alts := [], laidByText := true, laidKinds := [.data, .data, .data, .data, .pinned], laidTests := true, laidLooks := .later }
def EventMarksUptoCardSaid : Prop := Claim7.holds Tryd.pinned (.plain (OpenSpec.upto eventMarksSpec)) eventMarksUptoCard

/-- THE SECOND FORM's CARD OF 'rivuletlaw06.EventBack'. -/
def eventBackUptoCard : Claim7 := { stood := { row := eventBackUptoRow, standIns := [], harness := (true, "d2502a477be97507348015fadae186601cdcc32b8086423c0a5d68e8774b3432"), looks := false }, kinds := [], alts := [], laidByText := true, laidKinds := [.data, .data, .data, .data, .pinned], laidTests := true, laidLooks := .later }
def EventBackUptoCardSaid : Prop := Claim7.holds Tryd.pinned (.plain (OpenSpec.upto eventBackSpec)) eventBackUptoCard

/-- THE SECOND FORM's CARD OF 'rivuletlaw06.EventAges'. -/
def eventAgesUptoCard : Claim7 := { stood := { row := eventAgesUptoRow, standIns := [], harness := (true, "d2502a477be97507348015fadae186601cdcc32b8086423c0a5d68e8774b3432"), looks := false }, kinds := [], alts := [], laidByText := true, laidKinds := [.data, .data, .data, .data, .pinned], laidTests := true, laidLooks := .later }
def EventAgesUptoCardSaid : Prop := Claim7.holds Tryd.pinned (.plain (OpenSpec.upto eventAgesSpec)) eventAgesUptoCard

/-- THE SECOND FORM's CARD OF 'rivuletlaw06.EventCuts'. -/
def eventCutsUptoCard : Claim7 := { stood := { row := eventCutsUptoRow, standIns := [], harness := (true, "d2502a477be97507348015fadae186601cdcc32b8086423c0a5d68e8774b3432"), looks := false }, kinds := [], alts := [], laidByText := true, laidKinds := [.data, .data, .data, .data, .pinned], laidTests := true, laidLooks := .later }
def EventCutsUptoCardSaid : Prop := Claim7.holds Tryd.pinned (.plain (OpenSpec.upto eventCutsSpec)) eventCutsUptoCard

/-- THE SECOND FORM's CARD OF 'rivuletlaw06.EventSame'. -/
def eventSameUptoCard : Claim7 := { stood := { row := eventSameUptoRow, standIns := [], harness := (true, "d2502a477be97507348015fadae186601cdcc32b8086423c0a5d68e8774b3432"), looks := false }, kinds := [], alts := [], laidByText := true, laidKinds := [.data, .data, .data, .data, .pinned], laidTests := true, laidLooks := .later }
def EventSameUptoCardSaid : Prop := Claim7.holds Tryd.pinned (.plain (OpenSpec.upto eventSameSpec)) eventSameUptoCard
end Rows
end Go.Proofs.YtdoaomoocikmaaaDoor
