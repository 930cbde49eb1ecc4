import Derived.Test.YtjjimkmbbifbjaaDoorKPuts33
namespace Go.Proofs.YtjjimkmbbifbjaaDoor.SP
open Go Go.RowKit Go.Shelf Go.Proofs.YtjjimkmbbifbjaaDoor Go.Proofs.YtjjimkmbbifbjaaDoor.SW Go.Proofs.YtjjimkmbbifbjaaDoor.VP Go.Proofs.YtjjimkmbbifbjaaDoor.VF Go.Proofs.YtjjimkmbbifbjaaDoor.TP Go.Proofs.YtjjimkmbbifbjaaDoor.Pv Go.Proofs.YtjjimkmbbifbjaaDoorW.PrintWords
theorem dg_nat (u : Nat) (h : u < 10) : strOfNums [(wrap64 (48 + (u : Int))) % 256] = ⟨#[UInt8.ofNat (48 + u)]⟩ := by
  rw [VF.w64 (by omega), show ((48 + (u : Int)) % 256) = ((48 + u : Nat) : Int) by omega]
  rfl
theorem digits_step (K u : Nat) (hb : u ≤ 9223372036854775807) : rivuletref06_Digits.f (K + 2) u = if u < 10 then some ⟨#[UInt8.ofNat (48 + u % 10)]⟩ else (rivuletref06_Digits.f K ((u / 10 : Nat) : Int)).bind fun t => if t.size + 1 ≤ 9223372036854775807 then some (t ++ ⟨#[UInt8.ofNat (48 + u % 10)]⟩) else none := by
  have e1 : Int.tmod (u : Int) 10 = ((u % 10 : Nat) : Int) := by rw [Int.tmod_eq_emod_of_nonneg (by omega)]; omega
  have e2 : wrap64 (Int.tdiv (u : Int) 10) = ((u / 10 : Nat) : Int) := by
    rw [Int.tdiv_eq_ediv_of_nonneg (by omega), VF.w64 (by omega)]
    omega
  simp only [rivuletref06_Digits.f, rivuletref06_Digits.j0]
  rw [e1, if_neg (by omega), e2, Option.bind_some, dg_nat (u % 10) (by omega)]
  by_cases h : u < 10
  · rw [if_pos (by omega), if_neg (by omega), if_pos h]
  · rw [if_neg (by omega), if_neg h]
    rfl
theorem digits_f : ∀ (k u K : Nat), u < 10 ^ (k + 1) → u ≤ 9223372036854775807 → k ≤ 100 → 2 * k + 2 ≤ K → rivuletref06_Digits.f K u = some ⟨(Lib.decDigits u).toArray⟩ ∧ (Lib.decDigits u).length ≤ k + 1 := by
  intro k
  induction k with
  | zero =>
    intro u K hu hb hk hK
    obtain ⟨K, rfl⟩ : ∃ m, K = m + 2 := ⟨K - 2, by omega⟩
    rw [digits_step K u hb, Lib.decDigits, if_pos (by omega), dif_pos (by omega), show u % 10 = u by omega]
    exact ⟨rfl, by simp⟩
  | succ k ih =>
    intro u K hu hb hk hK
    obtain ⟨K, rfl⟩ : ∃ m, K = m + 2 := ⟨K - 2, by omega⟩
    rw [digits_step K u hb, Lib.decDigits]
    by_cases h : u < 10
    · rw [if_pos h, dif_pos h, show u % 10 = u by omega]
      exact ⟨rfl, by simp⟩
    · obtain ⟨i1, i2⟩ := ih (u / 10) K (by rw [Nat.pow_succ] at hu; omega) (by omega) (by omega) (by omega)
      rw [if_neg h, dif_neg h, i1, Option.bind_some, if_pos (by simp [ByteArray.size]; omega)]
      refine ⟨congrArg some (ByteArray.ext (by simp)), by simp; omega⟩
theorem dgt {n : Int} (h0 : 0 ≤ n) (h1 : n ≤ 9223372036854775807) {K : Nat} (hK : 40 ≤ K) : rivuletref06_Digits.f K n = some (itS n) := by
  obtain ⟨u, rfl⟩ := Int.eq_ofNat_of_zero_le h0
  rw [(digits_f 19 u K (by omega) (by omega) (by omega) (by omega)).1]
  unfold itS Lib.itoa
  rw [if_neg (by omega), Int.toNat_natCast]
end Go.Proofs.YtjjimkmbbifbjaaDoor.SP
