-- Printed by this session's changed copy of the kit's printer (wip/tools/mkprint.py; some functions are given by hand). Lean checks it.
import Derived.Test.YtjmegjdgebmfeaaProg
import Derived.Below
import Derived.Deep.Draws
import Derived.Deep.AppendLies
import Derived.Maps.AppendAt
import Derived.OwnWalk
import Derived.Laws.BytesArg
import Derived.Laws.MakeOwn
import Derived.Laws.OwnMore
import Derived.Deep.OwnRows
import Derived.Tactics
import Derived.Lib.ConvBytes
import Derived.Laws.Slices
import Derived.WalkKit
import Derived.KernelRfl
import Derived.RowKit3
import Derived.Deep.LoopGhost
import Derived.Deep.QuietTactic
import Derived.BigQuiet
import Derived.WideLaws
import Derived.Deep.DeepCutAuto
import Derived.Deep.CutBlock
import Derived.Deep.RegionHeld3
import Derived.Laws.Rows
import Derived.Lib.AppendStr
import Derived.ArgAppend
import Derived.Laws.IdiomCopy
import Derived.OrdersHeld
import Derived.Laws.BitsLemmas
import Derived.RowKit
import Derived.Test.YtjmegjdgebmfeaaGiven
import Derived.Test.YtjmegjdgebmfeaaWWords
import Derived.Test.YtjmegjdgebmfeaaWLast
import Derived.Test.YtjmegjdgebmfeaaWTab
import Derived.Test.YtjmegjdgebmfeaaWFour
import Derived.Test.YtjmegjdgebmfeaaWQPut
import Derived.Test.YtjmegjdgebmfeaaWApart
import Derived.Test.YtjmegjdgebmfeaaWArr
import Derived.Test.YtjmegjdgebmfeaaWZeros
import Derived.Test.YtjmegjdgebmfeaaWFoot
import Derived.Test.YtjmegjdgebmfeaaWKept
import Derived.Test.YtjmegjdgebmfeaaWShare
import Derived.Test.YtjmegjdgebmfeaaWN
import Derived.Test.YtjmegjdgebmfeaaWFootNe
import Derived.Test.YtjmegjdgebmfeaaWAt
import Derived.Test.YtjmegjdgebmfeaaWEqStruct
import Derived.Test.YtjmegjdgebmfeaaWRepsOne
import Derived.Test.YtjmegjdgebmfeaaWInv
import Derived.Test.YtjmegjdgebmfeaaWInvWords
import Derived.Test.YtjmegjdgebmfeaaWGuard
import Derived.Test.YtjmegjdgebmfeaaWNEv
import Derived.Test.YtjmegjdgebmfeaaWMore
namespace Go.Proofs.Ytjmegjdgebmfeaa.Pr
open Go.RowKit Go.Proofs.YtjmegjdgebmfeaaW.PrintWords Go.Proofs.YtjmegjdgebmfeaaW.PrintLast Go.Proofs.YtjmegjdgebmfeaaW.PrintMore
attribute [local go_sem] max2_int min2_int max_two min_two max_three min_three max_four min_four   -- for this text's walks alone
set_option linter.unusedVariables false
set_option linter.unusedSimpArgs false



def errW : Option Int → Value
  | none => .nilIface
  | some c => .iface 0 (.int .i64 c)
theorem errW_none : errW none = .nilIface := rfl
theorem errW_some (c : Int) : errW (some c) = .iface 0 (.int .i64 c) := rfl

theorem info5 : (Try.prog.info? 5).map (fun i => (i.zero, i.size, i.bytes)) = some (some (.int .u8 0), 1, 1) := by kernel_rfl
theorem info22 : (Try.prog.info? 22).map (fun i => (i.zero, i.size, i.bytes)) = some (some (.int .u64 0), 1, 8) := by kernel_rfl
-- the values' own types

end Go.Proofs.Ytjmegjdgebmfeaa.Pr
