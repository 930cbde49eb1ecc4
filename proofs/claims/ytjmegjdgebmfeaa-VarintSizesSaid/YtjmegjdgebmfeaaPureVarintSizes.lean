/-
  How many bytes a number has: one up to 240, two up to 2287, three up to 67823, and then one more than it takes whole bytes, for every number.
-/
import Derived.Test.YtjmegjdgebmfeaaVarMore
import Derived.Test.YtjmegjdgebmfeaaPr11
namespace Go.Proofs.Ytjmegjdgebmfeaa.Pure
open Go.RowKit Go.Proofs.Ytjmegjdgebmfeaa Go.Proofs.Ytjmegjdgebmfeaa.Pr Go.Proofs.Ytjmegjdgebmfeaa.VP Go.Proofs.Ytjmegjdgebmfeaa.VF Go.Proofs.YtjmegjdgebmfeaaW.PrintWords Go.Proofs.YtjmegjdgebmfeaaW.PrintLast Go.Proofs.YtjmegjdgebmfeaaW.PrintMore

/-- How many bytes to the base 256. -/
theorem sizes_loop {n : Int} (h0 : 0 ≤ n) (h1 : n ≤ 18446744073709551615) (d : Nat) : ∀ (k : Nat) (i : Nat), (i + d = 8 ∧ d + 20 ≤ k) → ∃ m : Nat, i ≤ m ∧ m ≤ 8 ∧ n / 256 ^ m = 0 ∧ (i < m → 0 < n / 256 ^ (m - 1)) ∧ ∃ k', k ≤ k' + d + 1 ∧
    rivuletlaw01_VarintSizes.l0 k n ((1 : Int) + i) (n / 256 ^ i) = (if n ≤ 67823 then rivuletlaw01_VarintSizes.j1 k' n 3 else rivuletlaw01_VarintSizes.j1 k' n (mx 4 (1 + (m : Int)))) := by
  induction d with
  | zero =>
    intro k i h
    obtain ⟨k, rfl⟩ : ∃ m, k = m + 1 := ⟨k - 1, by omega⟩
    obtain rfl : i = 8 := by omega
    have hz : n / 256 ^ 8 = 0 := Int.ediv_eq_zero_of_lt h0 (by omega)
    refine ⟨8, by omega, by omega, hz, fun h => by omega, k, by omega, ?_⟩
    simp only [rivuletlaw01_VarintSizes.l0]
    rw [hz, if_neg (by omega)]
  | succ d ih =>
    intro k i h
    obtain ⟨k, rfl⟩ : ∃ m, k = m + 1 := ⟨k - 1, by omega⟩
    have hp := pow_pos256 i
    simp only [rivuletlaw01_VarintSizes.l0]
    by_cases g : 0 < n / 256 ^ i
    · obtain ⟨m, a, b, c, e, k', hk', f⟩ := ih k (i + 1) (by omega)
      have hps : (256 : Int) ^ i * 256 = 256 ^ (i + 1) := (Int.pow_succ _ _).symm
      have hq := Int.ediv_le_self (256 ^ (i + 1)) h0
      have hq0 := Int.ediv_nonneg h0 (Int.le_of_lt (pow_pos256 (i + 1)))
      refine ⟨m, by omega, b, c, fun _ => ?_, k', by omega, ?_⟩
      · by_cases z : i + 1 < m
        · exact e z
        · rw [show m - 1 = i by omega]; exact g
      · rw [if_pos g, w64 (by omega), Int.tdiv_eq_ediv_of_nonneg (by omega), Int.ediv_ediv_of_nonneg (Int.le_of_lt hp), hps, u64 (by omega), show (1 : Int) + i + 1 = 1 + ((i + 1 : Nat) : Int) by omega]
        exact f
    · have hz := Int.ediv_nonneg h0 (Int.le_of_lt hp)
      refine ⟨i, by omega, by omega, by omega, fun h => by omega, k, by omega, ?_⟩
      rw [if_neg g]
theorem bh_of {n : Int} (h0 : 0 ≤ n) (h1 : n ≤ 18446744073709551615) {m : Nat} (hm : m ≤ 8) (hz : n / 256 ^ m = 0) (hp : 0 < m → 0 < n / 256 ^ (m - 1)) : (bh n : Int) = mx 4 (1 + (m : Int)) - 1 := by
  have up : n < 256 ^ m := by
    have := Int.lt_mul_ediv_self_add (x := n) (pow_pos256 m)
    rw [hz, Int.mul_zero] at this
    omega
  have lo : 0 < m → 256 ^ (m - 1) ≤ n := fun h => by
    have h2 := Int.mul_ediv_self_le (x := n) (Int.ne_of_gt (pow_pos256 (m - 1)))
    have h3 := hp h
    have h4 : (256 : Int) ^ (m - 1) * 1 ≤ 256 ^ (m - 1) * (n / 256 ^ (m - 1)) := Int.mul_le_mul_of_nonneg_left h3 (Int.le_of_lt (pow_pos256 _))
    omega
  clear hz hp
  unfold mx bh
  match m, hm with
  | 0, _ => repeat' split
            all_goals omega
  | 1, _ => have := lo (by decide); repeat' split
            all_goals omega
  | 2, _ => have := lo (by decide); repeat' split
            all_goals omega
  | 3, _ => have := lo (by decide); repeat' split
            all_goals omega
  | 4, _ => have := lo (by decide); repeat' split
            all_goals omega
  | 5, _ => have := lo (by decide); repeat' split
            all_goals omega
  | 6, _ => have := lo (by decide); repeat' split
            all_goals omega
  | 7, _ => have := lo (by decide); repeat' split
            all_goals omega
  | 8, _ => have := lo (by decide); repeat' split
            all_goals omega
theorem VarintSizes : rivuletlaw01_VarintSizes.Pure := by
  intro n hn
  have hn := wf_u64 hn
  refine ⟨1000, ?_⟩
  unfold rivuletlaw01_VarintSizes.f
  obtain ⟨m, _, hm, hz, hp, k', hk', h⟩ := sizes_loop hn.1 hn.2 8 1000 0 (by omega)
  rw [show (1 : Int) + ((0 : Nat) : Int) = 1 from rfl, show n / 256 ^ 0 = n by simp] at h
  have hb := bh_of hn.1 hn.2 hm hz hp
  rw [h]
  obtain ⟨k', rfl⟩ : ∃ z, k' = z + 2 := ⟨k' - 2, by omega⟩
  have hsz : ((strOfNums (enc n)).size : Int) = sz n := by rw [strOfNums_size, enc_length]
  have fin : ∀ x : Int, x = sz n → (¬ n ≤ 240) → rivuletlaw01_VarintSizes.j2 (k' + 1) n x = some true := by
    rintro x rfl hx
    simp only [rivuletlaw01_VarintSizes.j2]
    rw [if_neg hx, size_sz hn.2, Option.bind_some, if_pos rfl, put_enc hn.1 hn.2 (by omega), Option.bind_some, if_pos hsz]
    rfl
  have fin1 : ∀ x : Int, (n ≤ 240) → rivuletlaw01_VarintSizes.j2 (k' + 1) n x = some true := by
    intro x hx
    simp only [rivuletlaw01_VarintSizes.j2]
    have : sz n = 1 := by unfold sz; rw [if_pos hx]
    rw [if_pos hx, size_sz hn.2, Option.bind_some, if_pos (by omega), put_enc hn.1 hn.2 (by omega), Option.bind_some, if_pos (by omega)]
    rfl
  by_cases a : n ≤ 67823
  · rw [if_pos a]
    simp only [rivuletlaw01_VarintSizes.j1]
    by_cases b : n ≤ 2287
    · rw [if_pos b]
      by_cases c : n ≤ 240
      · exact fin1 _ c
      · exact fin _ (by unfold sz; rw [if_neg c, if_pos b]; rfl) c
    · rw [if_neg b]
      exact fin _ (by unfold sz; rw [if_neg (by omega), if_neg b, if_pos a]; rfl) (by omega)
  · rw [if_neg a]
    simp only [rivuletlaw01_VarintSizes.j1]
    rw [if_neg (by omega)]
    exact fin _ (by unfold sz; rw [if_neg (by omega), if_neg (by omega), if_neg a]; omega) (by omega)
end Go.Proofs.Ytjmegjdgebmfeaa.Pure
