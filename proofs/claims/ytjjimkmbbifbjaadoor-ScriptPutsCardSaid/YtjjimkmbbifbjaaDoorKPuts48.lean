import Derived.Test.YtjjimkmbbifbjaaDoorRows
import Derived.Lib.LaidTab
import Derived.Lib.LaidU8
import Derived.Test.YtjjimkmbbifbjaaDoorKPuts29
namespace Go.Proofs.YtjjimkmbbifbjaaDoor.STab
open Go Go.Lib
set_option maxRecDepth 100000 in
theorem tab_of_reads {W : World} (h : VarReads Tryd.prog W "internal/strconv.uint64pow10" Rows.laid_internal_strconv_uint64pow10) : SP.Tab W.heap.size W := by
  obtain ⟨g, t, cs, fuel, p, hg, hty, hvar, hd⟩ := h
  have hg2 : Tryd.prog.globalNamed "internal/strconv.uint64pow10" = some 0 := by kernel_rfl
  obtain rfl := Option.some.inj (hg2.symm.trans hg)
  have ht2 : (Tryd.prog.globals[0]?).map (·.type) = some 98 := by kernel_rfl
  obtain rfl := Option.some.inj (ht2.symm.trans hty)
  refine tabBelow_of_tabIs ?_
  unfold TabIs
  have hd2 : DataW.trod (fun _ => ()) Tryd.prog W 0 (fun _ => true) false fuel 98 cs.toList = some (tabData .u64 pow10Tab, p) := hd
  rw [hvar, ← cells_of_tab Tryd.underlying98 Tryd.underlying50 (by kernel_rfl) (by kernel_rfl) hd2]
end Go.Proofs.YtjjimkmbbifbjaaDoor.STab
