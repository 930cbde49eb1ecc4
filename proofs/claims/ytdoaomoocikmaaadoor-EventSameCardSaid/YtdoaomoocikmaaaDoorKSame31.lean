import Derived.Test.YtdoaomoocikmaaaDoorKSame27
import Derived.Test.YtdoaomoocikmaaaDoorKSame30
import Derived.Test.YtdoaomoocikmaaaDoorKSame8
import Derived.Test.YtdoaomoocikmaaaDoorKSame13
import Derived.Test.YtdoaomoocikmaaaDoorKSame14
namespace Go.Proofs.YtdoaomoocikmaaaDoor
open Go Go.RowKit Go.Proofs.YtdoaomoocikmaaaDoor.VP Go.Proofs.YtdoaomoocikmaaaDoor.VF Go.Proofs.YtdoaomoocikmaaaDoor.TP Go.Proofs.YtdoaomoocikmaaaDoor.TF Go.Proofs.YtdoaomoocikmaaaDoor.EB Go.Proofs.YtdoaomoocikmaaaDoor.EW Go.Proofs.YtdoaomoocikmaaaDoorW.PrintWords
theorem cell_block_lt {w : World} {a : Addr} {v : Value} (h : w.cell? a = some v) : a.block < w.heap.size := by
  unfold World.cell? at h
  rcases Nat.lt_or_ge a.block w.heap.size with g | g
  · exact g
  · rw [Array.getElem?_eq_none g] at h
    cases h
def rivuletref01_Put.f (n : Int) : Option ByteArray := if 0 ≤ n ∧ n ≤ 18446744073709551615 then some (strOfNums (enc n)) else none
def rivuletref01_Text.f (s : ByteArray) : Option ByteArray := if s.size ≤ 140737488351232 then some (strOfNums (enc s.size) ++ s) else none
def rivuletref03_Right.f (s : ByteArray) : Option Bool := if s.size ≤ 900000 then some (rightB s) else none
def event_Right.f (o q : Int) (t l : ByteArray) (m : Int) : Option Bool := if t.size ≤ 900000 then some (rightE o q t l m) else none
def event_Put.f (o q : Int) (t l : ByteArray) (m : Int) : Option ByteArray := if t.size ≤ 900000 ∧ l.size ≤ 900000 then some (EB.putB o q t l m) else none
def event_Get.f (s : ByteArray) (a : Int) : Option (Int × Int × ByteArray × ByteArray × Int × Int × Int) := if s.size ≤ 900000 then some (EB.getE s a) else none
def event_Show.f (o q : Int) (t l : ByteArray) (m : Int) : Option ByteArray := if t.size ≤ 900000 ∧ l.size ≤ 900000 ∧ (rightE o q t l m = false ∨ (o < 100 ∧ q < 100 ∧ l.size < 100 ∧ m < 100)) then some (showB o q t l m) else none
theorem rivuletref01_Put.calls (n : Int) (r : ByteArray) (w : World) (h : rivuletref01_Put.f n = some r) :
    Calls Tryd.prog 37 #[.int .u64 n] w fun e w' => e = .returned (.string r) ∧ Below w.heap.size w w' := by
  obtain ⟨⟨h0, h1⟩, rfl⟩ := of_if h
  exact Pv.rivuletref01_Put.calls 24 n _ w (rput_enc h0 h1 (Nat.le_refl _))
theorem rivuletref01_Text.calls (s : ByteArray) (r : ByteArray) (w : World) (h : rivuletref01_Text.f s = some r) :
    Calls Tryd.prog 38 #[.string s] w fun e w' => e = .returned (.string r) ∧ Below w.heap.size w w' := by
  obtain ⟨h1, rfl⟩ := of_if h
  exact Pv.rivuletref01_Text.calls 24 s _ w (rtext_enc h1 (Nat.le_refl _))
theorem rivuletref03_Right.calls (s : ByteArray) (r : Bool) (w : World) (h : rivuletref03_Right.f s = some r) :
    Calls Tryd.prog 34 #[.string s] w fun e w' => e = .returned (.bool r) ∧ Below w.heap.size w w' := by
  obtain ⟨h1, rfl⟩ := of_if h
  exact Pv.rivuletref03_Right.calls (2 * s.size + 11) s _ w (TF.right_f h1 (by omega))
theorem event_Right.calls (o q : Int) (t l : ByteArray) (m : Int) (r : Bool) (w : World) (h : event_Right.f o q t l m = some r) :
    Calls Tryd.prog 11 #[.agg #[.int .i64 o, .int .i64 q, .string t, .string l, .int .i64 m]] w fun e w' => e = .returned (.bool r) ∧ Below w.heap.size w w' := by
  obtain ⟨h1, rfl⟩ := of_if h
  exact EB.right_walk o q t l m h1 w
theorem event_Put.calls (o q : Int) (t l : ByteArray) (m : Int) (r : ByteArray) (w : World) (h : event_Put.f o q t l m = some r) :
    Calls Tryd.prog 13 #[.agg #[.int .i64 o, .int .i64 q, .string t, .string l, .int .i64 m]] w fun e w' => e = .returned (.string r) ∧ Below w.heap.size w w' := by
  obtain ⟨⟨h1, h2⟩, rfl⟩ := of_if h
  exact EW.put_walk o q t l m h1 h2 w
theorem event_Get.calls (s : ByteArray) (a : Int) (r1 r2 : Int) (r3 r4 : ByteArray) (r5 r6 r7 : Int) (w : World) (h : event_Get.f s a = some (r1, r2, r3, r4, r5, r6, r7)) :
    Calls Tryd.prog 22 #[.string s, .int .i64 a] w fun e w' => e = .returned (.tuple #[.agg #[.int .i64 r1, .int .i64 r2, .string r3, .string r4, .int .i64 r5], .int .i64 r6, .int .i64 r7]) ∧ Below w.heap.size w w' := by
  obtain ⟨h1, h2⟩ := of_if h
  have := EW.get_walk s h1 a w
  rw [h2] at this
  exact this
theorem event_Show.calls (o q : Int) (t l : ByteArray) (m : Int) (r : ByteArray) (w : World) (h : event_Show.f o q t l m = some r) :
    Calls Tryd.prog 15 #[.agg #[.int .i64 o, .int .i64 q, .string t, .string l, .int .i64 m]] w fun e w' => e = .returned (.string r) ∧ Below w.heap.size w w' := by
  obtain ⟨⟨h1, hl, h2⟩, rfl⟩ := of_if h
  rcases h2 with h2 | ⟨h2, h3, h4, h5⟩
  · exact EW.show_no o q t l m h1 hl h2 w
  · exact EW.show_small o q t l m h1 h2 h3 h4 h5 w
end Go.Proofs.YtdoaomoocikmaaaDoor
