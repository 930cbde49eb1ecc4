import Derived.Test.YtjjimkmbbifbjaaDoorKCuts34
import Derived.Test.YtjjimkmbbifbjaaDoorKCuts35
namespace Go.Proofs.YtjjimkmbbifbjaaDoor.SR
open Go Go.RowKit Go.Proofs.YtjjimkmbbifbjaaDoor Go.Proofs.YtjjimkmbbifbjaaDoor.VP Go.Proofs.YtjjimkmbbifbjaaDoor.VF Go.Proofs.YtjjimkmbbifbjaaDoor.SP Go.Proofs.YtjjimkmbbifbjaaDoor.SW Go.Proofs.YtjjimkmbbifbjaaDoor.Pr Go.Proofs.YtjjimkmbbifbjaaDoorW.PrintWords
def rA (x : A) : Bool := rightA x.f0 x.f1 x.f2 x.f3 x.f4 x.f5 x.f6 x.f7
def pL (x : A) : List Int := putL x.f0 x.f1 x.f2 x.f3 x.f4 x.f5 x.f6 x.f7
def pA (x : A) : ByteArray := putA x.f0 x.f1 x.f2 x.f3 x.f4 x.f5 x.f6 x.f7
theorem pL_pos (x : A) : 0 < (pL x).length := by unfold pL putL; simp
theorem pA_bytes {x : A} (h : rA x = true) : bytesOf (pA x) = pL x := by
  rw [show pA x = putS x.f0 x.f1 x.f2 x.f3 x.f4 x.f5 x.f6 x.f7 from if_pos h]
  exact bytes_putS h
theorem pA_none {x : A} (h : rA x = false) : pA x = ⟨#[]⟩ := if_neg (fun g => by unfold rA at h; rw [h] at g; cases g)
theorem pA_size {x : A} (h : rA x = true) : (pA x).size = (pL x).length := by rw [← pA_bytes h, size_bytes]
theorem pA_list {x : A} : (pA x).toList = ([] : List UInt8) ↔ rA x = false := by
  cases h : rA x with
  | true =>
    have := pL_pos x
    have hs := pA_size h
    refine ⟨fun g => ?_, fun g => by cases g⟩
    rw [VF.toList_eq] at g
    have : (pA x).size = 0 := by show (pA x).data.size = 0; rw [← Array.length_toList, g]; rfl
    omega
  | false => rw [pA_none h]; simp [VF.toList_eq]
def okA (x : A) : Prop := rA x = true ∧ x.f4.size ≤ 65536
theorem got_put {s : ByteArray} {p : Nat} {x : A} {r : List Int} (h : okA x) (hd : (bytesOf s).drop p = pL x ++ r) : er10 (getA s p) = 0 ∧ mk8 (getA s p) = x ∧ to10 (getA s p) = ((p + (pL x).length : Nat) : Int) := by
  rw [getA_put h.1 h.2 hd]
  exact ⟨rfl, rfl, rfl⟩
def cutA (x : A) : A := ⟨x.f0, x.f1, x.f2, x.f3, x.f4.extract 0 (mn (x.f4.size : Int) 150).toNat, x.f5.extract 0 (mn (x.f5.size : Int) 150).toNat, x.f6, x.f7⟩
theorem mn_cut (s : ByteArray) : 0 ≤ mn (s.size : Int) 150 ∧ mn (s.size : Int) 150 ≤ s.size ∧ mn (s.size : Int) 150 ≤ 150 := by unfold mn; split <;> omega
theorem cut_f (a n N K : Int) (s t : ByteArray) (b : Bool) (T : Int) : rivuletlaw23_cut.f a n N K s t b T = some (a, n, N, K, s.extract 0 (mn (s.size : Int) 150).toNat, t.extract 0 (mn (t.size : Int) 150).toNat, b, T) := by
  have h1 := mn_cut s
  have h2 := mn_cut t
  unfold rivuletlaw23_cut.f
  rw [if_pos h1.1, if_pos h1.2.1, if_pos h2.1, if_pos h2.2.1]
theorem ex_size (s : ByteArray) : (s.extract 0 (mn (s.size : Int) 150).toNat).size ≤ 150 := by
  have := mn_cut s
  rw [ByteArray.size_extract]
  omega
def fit (x : A) : Prop := x.f4.size ≤ 150 ∧ x.f5.size ≤ 150
theorem cut_fit (x : A) : fit (cutA x) := ⟨ex_size _, ex_size _⟩
theorem eL_len (h : Int) (i : Nat) (v : Int) : (eL h i v).length ≤ 9 := by
  unfold eL
  split
  · rw [enc_length]; exact (sz_bd v).2
  · simp
theorem xL_len (h : Int) (i : Nat) (x : ByteArray) : (xL h i x).length ≤ 9 + x.size := by
  unfold xL
  split
  · rw [tL_length]; have := (sz_bd x.size).2; omega
  · simp
theorem fL_len (h : Int) (b : Bool) : (fL h b).length ≤ 1 := by unfold fL; split <;> simp
theorem pL_len {x : A} (h : fit x) : (pL x).length ≤ 400 := by
  unfold pL putL
  simp only [List.length_append, List.length_singleton]
  have := eL_len (hasB x.f0) 0 x.f1
  have := eL_len (hasB x.f0) 1 x.f2
  have := eL_len (hasB x.f0) 2 x.f3
  have := eL_len (hasB x.f0) 3 x.f7
  have := fL_len (hasB x.f0) x.f6
  have := xL_len (hasB x.f0) 5 x.f4
  have := xL_len (hasB x.f0) 6 x.f5
  have := h.1
  have := h.2
  omega
theorem pA_le {x : A} (h : fit x) : (pA x).size ≤ 400 := by
  cases hr : rA x with
  | true => rw [pA_size hr]; exact pL_len h
  | false => rw [pA_none hr]; exact Nat.zero_le _
abbrev R8 := Int × Int × Int × Int × ByteArray × ByteArray × Bool × Int
def t8 (x : A) : R8 := (x.f0, x.f1, x.f2, x.f3, x.f4, x.f5, x.f6, x.f7)
def bareA (x : A) : A := ⟨kI (hasB x.f0) x.f0, cI (hasB x.f0) 0 x.f1, cI (hasB x.f0) 1 x.f2, cI (hasB x.f0) 2 x.f3, cS (hasB x.f0) 5 x.f4, cS (hasB x.f0) 6 x.f5, cB (hasB x.f0) 4 x.f6, cI (hasB x.f0) 3 x.f7⟩
theorem fit_bare {x : A} (h : fit x) : fit (bareA x) := by
  unfold fit bareA cS
  simp only []
  constructor
  · split
    · exact h.1
    · exact Nat.zero_le _
  · split
    · exact h.2
    · exact Nat.zero_le _
theorem cut_t8 (a n N K : Int) (s t : ByteArray) (b : Bool) (T : Int) : rivuletlaw23_cut.f a n N K s t b T = some (t8 (cutA ⟨a, n, N, K, s, t, b, T⟩)) := cut_f a n N K s t b T
theorem bare_t8 (x : A) : script_Bare.f (t8 x).1 (t8 x).2.1 (t8 x).2.2.1 (t8 x).2.2.2.1 (t8 x).2.2.2.2.1 (t8 x).2.2.2.2.2.1 (t8 x).2.2.2.2.2.2.1 (t8 x).2.2.2.2.2.2.2 = some (t8 (bareA x)) := rfl
theorem put_t8 (x : A) (h : fit x) : script_Put.f (t8 x).1 (t8 x).2.1 (t8 x).2.2.1 (t8 x).2.2.2.1 (t8 x).2.2.2.2.1 (t8 x).2.2.2.2.2.1 (t8 x).2.2.2.2.2.2.1 (t8 x).2.2.2.2.2.2.2 = some (pA x) := if_pos (by have := h.1; show x.f4.size ≤ _; omega)
theorem right_t8 (x : A) (h : fit x) : script_Right.f (t8 x).1 (t8 x).2.1 (t8 x).2.2.1 (t8 x).2.2.2.1 (t8 x).2.2.2.2.1 (t8 x).2.2.2.2.2.1 (t8 x).2.2.2.2.2.2.1 (t8 x).2.2.2.2.2.2.2 = some (rA x) := if_pos (by have := h.1; show x.f4.size ≤ _; omega)
theorem bits_nonneg (x : Int) : 0 ≤ Go.bits .and .i64 x 65535 := by
  have e : ∃ m : Nat, Go.bits .and .i64 x 65535 = IntKind.i64.wrap (m : Int) ∧ m ≤ 65535 := by
    refine ⟨(BitVec.ofInt 64 x &&& BitVec.ofInt 64 65535).toNat, rfl, ?_⟩
    rw [BitVec.toNat_and]
    exact Nat.le_trans Nat.and_le_right (by decide)
  obtain ⟨m, e, hm⟩ := e
  rw [e, IntWalk.i64_in _ (by omega)]
  omega
theorem tmod_bd {x : Int} {n : Nat} (hx : 0 ≤ x) (hn : 0 < n) : ∃ j : Nat, Int.tmod x n = j ∧ j < n := by
  rw [Int.tmod_eq_emod_of_nonneg hx]
  have h0 := Int.emod_nonneg x (show (n : Int) ≠ 0 by omega)
  have h1 := Int.emod_lt_of_pos x (show (0 : Int) < n by omega)
  exact ⟨(x % n).toNat, by omega, by omega⟩
end Go.Proofs.YtjjimkmbbifbjaaDoor.SR
