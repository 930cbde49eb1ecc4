/-
  Chapter 09: the walk of the law DiskWhole: a file that is replaced has the old bytes, or the new ones, behind any crash.
-/
import Derived.Test.YtkmgbgolpogmpaaDskFixed
import Derived.Laws.BytesArg
namespace Go.Proofs.Ytkmgbgolpogmpaa.DK
open Go.RowKit Go.Proofs.Ytkmgbgolpogmpaa
attribute [local go_sem] max2_int min2_int max_two min_two

theorem and_mask (x : Int) {c : Nat} (hc : c < 65536) : ∃ m : Nat, Go.bits .and .i64 x (c : Int) = (m : Int) ∧ m ≤ c := by
  refine ⟨(BitVec.ofInt 64 x &&& BitVec.ofInt 64 (c : Int)).toNat, ?_, ?_⟩
  · have hle : (BitVec.ofInt 64 x &&& BitVec.ofInt 64 (c : Int)).toNat ≤ c := by
      rw [BitVec.toNat_and]
      refine Nat.le_trans Nat.and_le_right ?_
      rw [BitVec.ofInt_natCast, BitVec.toNat_ofNat]
      exact Nat.mod_le _ _
    show IntKind.i64.wrap (((BitVec.ofInt 64 x &&& BitVec.ofInt 64 (c : Int)).toNat : Nat) : Int) = _
    exact IntWalk.i64_in _ (by omega)
  · rw [BitVec.toNat_and]
    refine Nat.le_trans Nat.and_le_right ?_
    rw [BitVec.ofInt_natCast, BitVec.toNat_ofNat]
    exact Nat.mod_le _ _
def eB : ByteArray := ⟨#[]⟩
def abB : ByteArray := ⟨#[97, 98]⟩
theorem whole_stays (S0 S1 : ByteArray) {m : Nat} (hm : m ≤ 3) : ∃ X : ByteArray, stays [⟨false, 1, abB⟩, ⟨true, 3, S1⟩] m ⟨eB, eB, eB, S0⟩ = ⟨eB, X, eB, if m = 3 then S1 else S0⟩ ∧ X.size ≤ 2 := by
  obtain rfl | rfl | rfl | rfl : m = 0 ∨ m = 1 ∨ m = 2 ∨ m = 3 := by omega
  · exact ⟨eB ++ abB.extract 0 0, rfl, by decide⟩
  · exact ⟨eB ++ abB.extract 0 1, rfl, by decide⟩
  · exact ⟨eB ++ abB.extract 0 2, rfl, by decide⟩
  · exact ⟨eB ++ abB.extract 0 2, rfl, by decide⟩
theorem under45 : Try.prog.underlying 45 = some (.slice 5) := by kernel_rfl
theorem under8 : Try.prog.underlying 5 = some (.int .u8) := by kernel_rfl
theorem info8 : (Try.prog.info? 5).map (fun i => (i.zero, i.size, i.bytes)) = some (some (.int .u8 0), 1, 1) := by kernel_rfl
end Go.Proofs.Ytkmgbgolpogmpaa.DK
