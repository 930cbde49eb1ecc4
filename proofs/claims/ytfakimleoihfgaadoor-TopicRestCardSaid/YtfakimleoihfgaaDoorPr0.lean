-- Printed by this session's changed copy of the kit's printer (wip/tools/mkprint.py; some functions are given by hand). Lean checks it.
import Derived.Test.YtfakimleoihfgaaDoorProg
import Derived.Below
import Derived.Deep.Draws
import Derived.Deep.AppendLies
import Derived.Maps.AppendAt
import Derived.OwnWalk
import Derived.Laws.BytesArg
import Derived.Laws.MakeOwn
import Derived.Laws.OwnMore
import Derived.Deep.OwnRows
import Derived.Tactics
import Derived.Lib.ConvBytes
import Derived.Laws.Slices
import Derived.WalkKit
import Derived.KernelRfl
import Derived.RowKit3
import Derived.Deep.LoopGhost
import Derived.Deep.QuietTactic
import Derived.BigQuiet
import Derived.WideLaws
import Derived.Deep.DeepCutAuto
import Derived.Deep.CutBlock
import Derived.Deep.RegionHeld3
import Derived.Laws.Rows
import Derived.Lib.AppendStr
import Derived.ArgAppend
import Derived.Laws.IdiomCopy
import Derived.OrdersHeld
import Derived.Laws.BitsLemmas
import Derived.RowKit
import Derived.Test.YtfakimleoihfgaaDoorTopGiven
import Derived.Test.YtfakimleoihfgaaDoorStrRow
import Derived.Test.YtfakimleoihfgaaDoorWWords
import Derived.Test.YtfakimleoihfgaaDoorWLast
import Derived.Test.YtfakimleoihfgaaDoorWTab
import Derived.Test.YtfakimleoihfgaaDoorWFour
import Derived.Test.YtfakimleoihfgaaDoorWQPut
import Derived.Test.YtfakimleoihfgaaDoorWApart
import Derived.Test.YtfakimleoihfgaaDoorWArr
import Derived.Test.YtfakimleoihfgaaDoorWZeros
import Derived.Test.YtfakimleoihfgaaDoorWFoot
import Derived.Test.YtfakimleoihfgaaDoorWKept
import Derived.Test.YtfakimleoihfgaaDoorWShare
import Derived.Test.YtfakimleoihfgaaDoorWN
import Derived.Test.YtfakimleoihfgaaDoorWFootNe
import Derived.Test.YtfakimleoihfgaaDoorWAt
import Derived.Test.YtfakimleoihfgaaDoorWEqStruct
import Derived.Test.YtfakimleoihfgaaDoorWRepsOne
import Derived.Test.YtfakimleoihfgaaDoorWInv
import Derived.Test.YtfakimleoihfgaaDoorWInvWords
import Derived.Test.YtfakimleoihfgaaDoorWGuard
import Derived.Test.YtfakimleoihfgaaDoorWNEv
import Derived.Test.YtfakimleoihfgaaDoorWMore
namespace Go.Proofs.YtfakimleoihfgaaDoor.Pr
open Go.RowKit Go.Proofs.YtfakimleoihfgaaDoorW.PrintWords Go.Proofs.YtfakimleoihfgaaDoorW.PrintLast Go.Proofs.YtfakimleoihfgaaDoorW.PrintMore
attribute [local go_sem] max2_int min2_int max_two min_two max_three min_three max_four min_four   -- for this text's walks alone
set_option linter.unusedVariables false
set_option linter.unusedSimpArgs false



def errW : Option Int → Value
  | none => .nilIface
  | some c => .iface 0 (.int .i64 c)
theorem errW_none : errW none = .nilIface := rfl
theorem errW_some (c : Int) : errW (some c) = .iface 0 (.int .i64 c) := rfl

theorem info9 : (Tryd.prog.info? 9).map (fun i => (i.zero, i.size, i.bytes)) = some (some (.string ⟨#[]⟩), 1, 16) := by kernel_rfl
-- the values' own types

end Go.Proofs.YtfakimleoihfgaaDoor.Pr
