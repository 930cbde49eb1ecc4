import Derived.Lib.AppendIntMem
import Derived.Lib.ItoaLen
import Derived.Maps.RangeWalk
import Derived.Maps.OwnOps
import Derived.Maps.Keyed
import Derived.RangeFuncBox
import Derived.Test.YtjjimkmbbifbjaaDoorKCuts24
import Derived.Test.YtjjimkmbbifbjaaDoorKCuts25
namespace Go.Proofs.YtjjimkmbbifbjaaDoor.SP
open Go Go.RowKit Go.Shelf Go.Maps Go.Proofs.YtjjimkmbbifbjaaDoor Go.Proofs.YtjjimkmbbifbjaaDoor.SW Go.Proofs.YtjjimkmbbifbjaaDoor.VP Go.Proofs.YtjjimkmbbifbjaaDoor.VF Go.Proofs.YtjjimkmbbifbjaaDoor.TP Go.Proofs.YtjjimkmbbifbjaaDoor.Pv Go.Proofs.YtjjimkmbbifbjaaDoorW.PrintWords
def itS (n : Int) : ByteArray := ⟨(Lib.itoa n).toArray⟩
def Tab (B : Nat) (w : World) : Prop := Lib.TabBelow Tryd.prog B w "internal/strconv.uint64pow10" .u64 Lib.pow10Tab
theorem Tab.on {B : Nat} {w w2 : World} (h : Tab B w) (hb : Below B w w2) : Tab B w2 := Lib.TabBelow.on h hb
theorem it_size {n : Int} (h0 : -9223372036854775808 ≤ n) (h1 : n ≤ 9223372036854775807) : (itS n).size ≤ 21 := by
  have := Lib.itoa_length_le n h0 h1
  unfold itS
  simpa [ByteArray.size] using this
theorem itoa_small (n : Int) (h0 : 0 ≤ n) (h1 : n < 100) (w : World) :
    Calls Tryd.prog 49 #[.int .i64 n] w fun e w' => e = .returned (.string (itS n)) ∧ Below w.heap.size w w' := by
  obtain ⟨i, rfl⟩ : ∃ i : Nat, n = i := ⟨n.toNat, by omega⟩
  refine (Tryd.strconv_Itoa_small i (by omega) w).mono ?_
  rintro e w2 ⟨rfl, rfl⟩
  refine ⟨?_, Below.refl _ _⟩
  unfold itS Lib.itoa
  rw [if_neg (by omega)]
  rfl
def addM (h m : Int) (out s : ByteArray) : ByteArray := if (Go.bits .and .i64 h m != 0) = true then out ++ ((⟨#[32]⟩ : ByteArray) ++ s) else out
theorem sz1 (c : UInt8) : (⟨#[c]⟩ : ByteArray).size = 1 := rfl
set_option maxHeartbeats 4000000 in
set_option maxRecDepth 100000 in
theorem add_walk {w : World} {BK BO : Nat} {h : Int} {out : ByteArray} (hK : Boxed w BK 3 (.int .i64 h)) (hO : Boxed w BO 9 (.string out)) (m : Int) (s : ByteArray) (hs : s.size ≤ 900000) (ho : out.size ≤ 4611686018427387904) :
    Calls Tryd.prog 48 #[.int .i64 m, .string s, .pointer (some ⟨BK, 0, none⟩), .pointer (some ⟨BO, 0, none⟩)] w fun e w' => e = .returned (.tuple #[]) ∧ Boxed w' BO 9 (.string (addM h m out s)) ∧ w.grownBy w' (some BO) ∧ w'.heap.size = w.heap.size := by
  have ck := hK.cell
  have co := hO.cell
  have fo := hO.frozen
  have n1 : ¬ 9223372036854775807 < 1 + s.size := by omega
  have n2 : ¬ 9223372036854775807 < out.size + (1 + s.size) := by omega
  have n3 : ¬ 9223372036854775807 < out.size + ((⟨#[32]⟩ : ByteArray) ++ s).size := by rw [ByteArray.size_append, sz1]; omega
  cases hb : (Go.bits .and .i64 h m != 0) with
  | true =>
    rw [show addM h m out s = out ++ ((⟨#[32]⟩ : ByteArray) ++ s) from if_pos hb]
    go_enter Tryd.func48, Tryd.ntmps48
    go_wp2
    go_end0
    exact ⟨rfl, hO.set _, grownBy_set _ _ _ _, by simp⟩
  | false =>
    rw [show addM h m out s = out from if_neg (by rw [hb]; decide)]
    go_enter Tryd.func48, Tryd.ntmps48
    go_wp2
    go_end0
    exact ⟨rfl, hO, World.grownBy.refl w _, rfl⟩
def RS (v : Value) : Option (DataW Unit × List MemPlace) :=
  match v with
  | .string s => some (.lit (.string s.data.toList), [])
  | _ => none
def onS (b : Bool) : ByteArray := if b = true then ⟨#[111, 110]⟩ else ⟨#[111, 102, 102]⟩
def DOn : DataW Unit := ((DataW.map []).put (.bool true) (.lit (.string [111, 110]))).put (.bool false) (.lit (.string [111, 102, 102]))
theorem DOn_at (b : Bool) (z : DataW Unit) : DOn.atKey (.bool b) z = .lit (.string (onS b).data.toList) := by
  cases b <;> rfl
theorem lawB : Keyed Tryd.prog 4 := bool_keyed Tryd.underlying4
theorem wpList_lookup_on {w : World} {ops : Array Oper} {rest : List Oper} {o : Oper} {a : Act} {Q : Exit → Act → World → Prop}
    (hg : o.guard = none) (m x : Operand) (hop : o.op = Op.lookup 59 m x false)
    (b n : Nat) (hm : a.eval m = .map (some b)) (hown : w.ownsMap Tryd.prog 4 RS b n DOn) (v : Bool) (hx : a.eval x = .bool v)
    (hK : wpList Tryd.prog ops Q rest (a.put o.dst (.string (onS v))) w) :
    wpList Tryd.prog ops Q (o :: rest) a w := by
  refine wpList_plain hg fun K' hK' => ?_
  have hz : (zeroValue 9).run Tryd.prog w = .ok (.string ⟨#[]⟩) w := by kernel_rfl
  obtain ⟨r, ps, hrun, hR⟩ := hown.lookup lawB Tryd.underlying59 hz (zd := .lit (.string [])) (zp := []) rfl (keyOf_bool_mk Tryd.underlying4 v)
  rw [DOn_at] at hR
  have hr : r = .string (onS v) := by
    unfold RS at hR
    split at hR
    · rename_i s
      simp only [Option.some.injEq, Prod.mk.injEq, DataW.lit.injEq, Lit.string.injEq] at hR
      exact congrArg Value.string (ByteArray.ext (Array.ext' hR.1))
    · cases hR
  subst hr
  unfold Oper.wp
  simp [execOp, hop, hm, hx, hrun, Result.andThen]
  exact hK' _ _ hK
end Go.Proofs.YtjjimkmbbifbjaaDoor.SP
