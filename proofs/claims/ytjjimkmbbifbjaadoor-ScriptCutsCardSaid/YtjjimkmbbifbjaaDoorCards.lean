/-
  DERIVED. GIVEN WITH THE SEED: THE CARDS: each row of YtjjimkmbbifbjaaDoorRows.lean that lists a variable, with what it lists TIED to the program's text (the seventh form; the later family's looks); each row that meets fmt, with fmt's text TOLD by the authors' own Lean function (tested against real Go, not proved from fmt's source: count such statements apart). THE CARD IS WHAT COUNTS. Prove the row's statement (the work); the ties are given (YtjjimkmbbifbjaaDoorTie.lean); close each card by the builder's one call (the guide's Derived/Test/ToyasCard.lean, 'card_holds'). Laid BY PROGRAM, IN A SANDBOX (cutbox-door.mjs). By AI agents, Wed Nov 11 2026. No macro, syntax, notation, axiom, sorry.
-/
import Derived.Test.YtjjimkmbbifbjaaDoorRows
import GoSem.ClaimSeven
namespace Go.Proofs.YtjjimkmbbifbjaaDoor
namespace Rows

/-- THE TIED CARD OF 'rivuletlaw23.ScriptPuts'. -/
def scriptPutsCard : Claim7 := { stood := { row := scriptPutsRow, standIns := [], harness := (true, "65a4d2dc29da2f49400350d30e69dc3aaf81051c7ae862e094cb2b147f8d819c"), looks := false }, kinds := [], alts := [], laidByText := true, laidKinds := [.data, .data, .data, .data, .pinned], laidTests := true, laidLooks := .later }
def ScriptPutsCardSaid : Prop := Claim7.holds Tryd.pinned (.plain (OpenSpec.ofChange scriptPutsSpec)) scriptPutsCard

/-- THE TIED CARD OF 'rivuletlaw23.ScriptGets'. -/
def scriptGetsCard : Claim7 := { stood := { row := scriptGetsRow, standIns := [], harness := (true, "65a4d2dc29da2f49400350d30e69dc3aaf81051c7ae862e094cb2b147f8d819c"), looks := false }, kinds := [], alts := [], laidByText := true, laidKinds := [.data, .data, .data, .data, .pinned], laidTests := true, laidLooks := .later }
def ScriptGetsCardSaid : Prop := Claim7.holds Tryd.pinned (.plain (OpenSpec.ofChange scriptGetsSpec)) scriptGetsCard

/-- THE TIED CARD OF 'rivuletlaw23.ScriptBack'. -/
def scriptBackCard : Claim7 := { stood := { row := scriptBackRow, standIns := [], harness := (true, "65a4d2dc29da2f49400350d30e69dc3aaf81051c7ae862e094cb2b147f8d819c"), looks := false }, kinds := [], alts := [], laidByText := true, laidKinds := [.data, .data, .data, .data, .pinned], laidTests := true, laidLooks := .later }
def ScriptBackCardSaid : Prop := Claim7.holds Tryd.pinned (.plain (OpenSpec.ofChange scriptBackSpec)) scriptBackCard

/-- THE TIED CARD OF 'rivuletlaw23.ScriptBare'. -/
def scriptBareCard : Claim7 := { stood := { row := scriptBareRow, standIns := [], harness := (true, "65a4d2dc29da2f49400350d30e69dc3aaf81051c7ae862e094cb2b147f8d819c"), looks := false }, kinds := [], alts := [], laidByText := true, laidKinds := [.data, .data, .data, .data, .pinned], laidTests := true, laidLooks := .later }
def ScriptBareCardSaid : Prop := Claim7.holds Tryd.pinned (.plain (OpenSpec.ofChange scriptBareSpec)) scriptBareCard

/-- THE TIED CARD OF 'rivuletlaw23.ScriptJoins'. -/
def scriptJoinsCard : Claim7 := { stood := { row := scriptJoinsRow, standIns := [], harness := (true, "65a4d2dc29da2f49400350d30e69dc3aaf81051c7ae862e094cb2b147f8d819c"), looks := false }, kinds := [], alts := [], laidByText := true, laidKinds := [.data, .data, .data, .data, .pinned], laidTests := true, laidLooks := .later }
def ScriptJoinsCardSaid : Prop := Claim7.holds Tryd.pinned (.plain (OpenSpec.ofChange scriptJoinsSpec)) scriptJoinsCard

/-- THE TIED CARD OF 'rivuletlaw23.ScriptCuts'. -/
def scriptCutsCard : Claim7 := { stood := { row := scriptCutsRow, standIns := [], harness := (true, "65a4d2dc29da2f49400350d30e69dc3aaf81051c7ae862e094cb2b147f8d819c"), looks := false }, kinds := [], alts := [], laidByText := true, laidKinds := [.data, .data, .data, .data, .pinned], laidTests := true, laidLooks := .later }
def ScriptCutsCardSaid : Prop := Claim7.holds Tryd.pinned (.plain (OpenSpec.ofChange scriptCutsSpec)) scriptCutsCard

/-- THE SECOND FORM's CARD OF 'rivuletlaw23.ScriptPuts'. -/
def scriptPutsUptoCard : Claim7 := { stood := { row := scriptPutsUptoRow, standIns := [], harness := (true, "65a4d2dc29da2f49400350d30e69dc3aaf81051c7ae862e094cb2b147f8d819c"), looks := false }, kinds := [], alts := [], laidByText := true, laidKinds := [.data, .data, .data, .data, .pinned], laidTests := true, laidLooks := .later }
def ScriptPutsUptoCardSaid : Prop := Claim7.holds Tryd.pinned (.plain (OpenSpec.upto scriptPutsSpec)) scriptPutsUptoCard

/-- THE SECOND FORM's CARD OF 'rivuletlaw23.ScriptGets'. -/
def scriptGetsUptoCard : Claim7 := { stood := { row := scriptGetsUptoRow, standIns := [], harness := (true, "65a4d2dc29da2f49400350d30e69dc3aaf81051c7ae862e094cb2b147f8d819c"), looks := false }, kinds := [], alts := [], laidByText := true, laidKinds := [.data, .data, .data, .data, .pinned], laidTests := true, laidLooks := .later }
def ScriptGetsUptoCardSaid : Prop := Claim7.holds Tryd.pinned (.plain (OpenSpec.upto scriptGetsSpec)) scriptGetsUptoCard

/-- THE SECOND FORM's CARD OF 'rivuletlaw23.ScriptBack'. -/
def scriptBackUptoCard : Claim7 := { stood := { row := scriptBackUptoRow, standIns := [], harness := (true, "65a4d2dc29da2f49400350d30e69dc3aaf81051c7ae862e094cb2b147f8d819c"), looks := false }, kinds := [], alts := [], laidByText := true, laidKinds := [.data, .data, .data, .data, .pinned], laidTests := true, laidLooks := .later }
def ScriptBackUptoCardSaid : Prop := Claim7.holds Tryd.pinned (.plain (OpenSpec.upto scriptBackSpec)) scriptBackUptoCard

/-- THE SECOND FORM's CARD OF 'rivuletlaw23.ScriptBare'. -/
def scriptBareUptoCard : Claim7 := { stood := { row := scriptBareUptoRow, standIns := [], harness := (true, "65a4d2dc29da2f49400350d30e69dc3aaf81051c7ae862e094cb2b147f8d819c"), looks := false }, kinds := [], alts := [], laidByText := true, laidKinds := [.data, .data, .data, .data, .pinned], laidTests := true, laidLooks := .later }
def ScriptBareUptoCardSaid : Prop := Claim7.holds Tryd.pinned (.plain (OpenSpec.upto scriptBareSpec)) scriptBareUptoCard

/-- THE SECOND FORM's CARD OF 'rivuletlaw23.ScriptJoins'. -/
def scriptJoinsUptoCard : Claim7 := { stood := { row := scriptJoinsUptoRow, standIns := [], harness := (true, "65a4d2dc29da2f49400350d30e69dc3aaf81051c7ae862e094cb2b147f8d819c"), looks := false }, kinds := [], alts := [], laidByText := true, laidKinds := [.data, .data, .data, .data, .pinned], laidTests := true, laidLooks := .later }
def ScriptJoinsUptoCardSaid : Prop := Claim7.holds Tryd.pinned (.plain (OpenSpec.upto scriptJoinsSpec)) scriptJoinsUptoCard

/-- THE SECOND FORM's CARD OF 'rivuletlaw23.ScriptCuts'. -/
def scriptCutsUptoCard : Claim7 := { stood := { row := scriptCutsUptoRow, standIns := [], harness := (true, "65a4d2dc29da2f49400350d30e69dc3aaf81051c7ae862e094cb2b147f8d819c"), looks := false }, kinds := [], alts := [], laidByText := true, laidKinds := [.data, .data, .data, .data, .pinned], laidTests := true, laidLooks := .later }
def ScriptCutsUptoCardSaid : Prop := Claim7.holds Tryd.pinned (.plain (OpenSpec.upto scriptCutsSpec)) scriptCutsUptoCard
end Rows
end Go.Proofs.YtjjimkmbbifbjaaDoor
