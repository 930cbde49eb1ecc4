-- Printed by this session's changed copy of the kit's printer (wip/tools/mkprint.py; some functions are given by hand). Lean checks it.
import Derived.Test.YthincnfcekcdaaaProg
import Derived.Below
import Derived.Deep.Draws
import Derived.Deep.AppendLies
import Derived.Maps.AppendAt
import Derived.OwnWalk
import Derived.Laws.BytesArg
import Derived.Laws.MakeOwn
import Derived.Laws.OwnMore
import Derived.Deep.OwnRows
import Derived.Tactics
import Derived.Lib.ConvBytes
import Derived.Laws.Slices
import Derived.WalkKit
import Derived.KernelRfl
import Derived.RowKit3
import Derived.Deep.LoopGhost
import Derived.Deep.QuietTactic
import Derived.BigQuiet
import Derived.WideLaws
import Derived.Deep.DeepCutAuto
import Derived.Deep.CutBlock
import Derived.Deep.RegionHeld3
import Derived.Laws.Rows
import Derived.Lib.AppendStr
import Derived.ArgAppend
import Derived.Laws.IdiomCopy
import Derived.OrdersHeld
import Derived.Laws.BitsLemmas
import Derived.RowKit
import Derived.Test.YthincnfcekcdaaaGiven
import Derived.Test.YthincnfcekcdaaaGivenCheck
import Derived.Test.YthincnfcekcdaaaStrRow
import Derived.Test.YthincnfcekcdaaaWWords
import Derived.Test.YthincnfcekcdaaaWLast
import Derived.Test.YthincnfcekcdaaaWTab
import Derived.Test.YthincnfcekcdaaaWFour
import Derived.Test.YthincnfcekcdaaaWQPut
import Derived.Test.YthincnfcekcdaaaWApart
import Derived.Test.YthincnfcekcdaaaWArr
import Derived.Test.YthincnfcekcdaaaWZeros
import Derived.Test.YthincnfcekcdaaaWFoot
import Derived.Test.YthincnfcekcdaaaWKept
import Derived.Test.YthincnfcekcdaaaWShare
import Derived.Test.YthincnfcekcdaaaWN
import Derived.Test.YthincnfcekcdaaaWFootNe
import Derived.Test.YthincnfcekcdaaaWAt
import Derived.Test.YthincnfcekcdaaaWEqStruct
import Derived.Test.YthincnfcekcdaaaWRepsOne
import Derived.Test.YthincnfcekcdaaaWInv
import Derived.Test.YthincnfcekcdaaaWInvWords
import Derived.Test.YthincnfcekcdaaaWGuard
import Derived.Test.YthincnfcekcdaaaWNEv
import Derived.Test.YthincnfcekcdaaaWMore
namespace Go.Proofs.Ythincnfcekcdaaa.Pr
open Go.RowKit Go.Proofs.YthincnfcekcdaaaW.PrintWords Go.Proofs.YthincnfcekcdaaaW.PrintLast Go.Proofs.YthincnfcekcdaaaW.PrintMore
attribute [local go_sem] max2_int min2_int max_two min_two max_three min_three max_four min_four   -- for this text's walks alone
set_option linter.unusedVariables false
set_option linter.unusedSimpArgs false



def errW : Option Int → Value
  | none => .nilIface
  | some c => .iface 0 (.int .i64 c)
theorem errW_none : errW none = .nilIface := rfl
theorem errW_some (c : Int) : errW (some c) = .iface 0 (.int .i64 c) := rfl

theorem info3 : (Try.prog.info? 3).map (fun i => (i.zero, i.size, i.bytes)) = some (some (.int .i64 0), 1, 8) := by kernel_rfl
theorem info5 : (Try.prog.info? 5).map (fun i => (i.zero, i.size, i.bytes)) = some (some (.int .u8 0), 1, 1) := by kernel_rfl
theorem info9 : (Try.prog.info? 9).map (fun i => (i.zero, i.size, i.bytes)) = some (some (.string ⟨#[]⟩), 1, 16) := by kernel_rfl
-- the values' own types

end Go.Proofs.Ythincnfcekcdaaa.Pr
