import Derived.Test.YtjjimkmbbifbjaaDoorKPuts30
import Derived.Test.YtjjimkmbbifbjaaDoorKPuts31
import Derived.Test.YtjjimkmbbifbjaaDoorKPuts13
import Derived.Test.YtjjimkmbbifbjaaDoorKPuts19
import Derived.Test.YtjjimkmbbifbjaaDoorKPuts20
import Derived.Test.YtjjimkmbbifbjaaDoorKPuts32
namespace Go.Proofs.YtjjimkmbbifbjaaDoor.SP
open Go Go.RowKit Go.Shelf Go.Proofs.YtjjimkmbbifbjaaDoor Go.Proofs.YtjjimkmbbifbjaaDoor.SW Go.Proofs.YtjjimkmbbifbjaaDoor.VP Go.Proofs.YtjjimkmbbifbjaaDoor.VF Go.Proofs.YtjjimkmbbifbjaaDoor.TP Go.Proofs.YtjjimkmbbifbjaaDoor.Pv Go.Proofs.YtjjimkmbbifbjaaDoorW.PrintWords
theorem rname_f (a : Int) : rivuletref23_Name.f a = some (nameS a) := by
  by_cases ha : 0 ≤ a ∧ a < 11
  · have hk : a = 0 ∨ a = 1 ∨ a = 2 ∨ a = 3 ∨ a = 4 ∨ a = 5 ∨ a = 6 ∨ a = 7 ∨ a = 8 ∨ a = 9 ∨ a = 10 := by omega
    rcases hk with rfl | rfl | rfl | rfl | rfl | rfl | rfl | rfl | rfl | rfl | rfl <;> decide +kernel
  · rw [show nameS a = ⟨#[]⟩ from if_neg ha]
    unfold rivuletref23_Name.f
    by_cases h0 : a < 0
    · rw [if_pos h0]
    · rw [if_neg h0, if_pos (by omega)]
section
variable {a n N K : Int} {s t : ByteArray} {b : Bool} {T : Int}
theorem rd4 (n N K T : Int) {i : Nat} (h : i < 4) : rd [n, N, K, T] (i : Int) = vN n N K T i := by
  have hi : i = 0 ∨ i = 1 ∨ i = 2 ∨ i = 3 := by omega
  rcases hi with rfl | rfl | rfl | rfl <;> rfl
theorem rp_step {k i : Nat} (hi : i < 4) (hv : 0 ≤ vN n N K T i ∧ vN n N K T i ≤ 1099511627776) (S : ByteArray) (hS : S.size ≤ 1000) (hk : 24 ≤ k) :
    rivuletref23_Put.l0 (k + 1) S [n, N, K, T] i a n N K s t b T = rivuletref23_Put.l0 k (if bH (hasB a) i = true then S ++ strOfNums (enc (vN n N K T i)) else S) [n, N, K, T] ((i + 1 : Nat) : Int) a n N K s t b T := by
  simp only [rivuletref23_Put.l0]
  have z := enc_size (vN n N K T i)
  rw [if_pos (show (i : Int) < 4 by omega), has_f a (show i < 7 by omega), Option.bind_some, show wrap64 ((i : Int) + 1) = ((i + 1 : Nat) : Int) by rw [VF.w64 (by omega)]; rfl]
  cases bH (hasB a) i with
  | false => rw [if_neg (by decide), if_neg (by decide)]
  | true =>
    rw [if_pos rfl, if_pos rfl, if_pos (show (0 : Int) ≤ (i : Int) by omega), if_pos (show (i : Int) < (([n, N, K, T] : List Int).length : Int) by simp; omega), rd4 n N K T hi, u64 (by omega), rput_enc (by omega) (by omega) hk, Option.bind_some, if_pos (by omega)]
theorem rp_j5 (k : Nat) (S : ByteArray) (hS : S.size ≤ 1000000) (ht : t.size ≤ 900000) (hk : 24 ≤ k) : rivuletref23_Put.j5 (k + 1) S a n N K s t b T = some (if bH (hasB a) 6 = true then S ++ (strOfNums (enc t.size) ++ t) else S) := by
  simp only [rivuletref23_Put.j5]
  have z := enc_size t.size
  rw [has6, Option.bind_some]
  cases bH (hasB a) 6 with
  | false => rw [if_neg (by decide), if_neg (by decide)]
  | true => rw [if_pos rfl, if_pos rfl, rtext_enc (by omega) hk, Option.bind_some, if_pos (by rw [ByteArray.size_append]; omega)]
theorem rp_j4 (k : Nat) (S : ByteArray) (hS : S.size ≤ 2000) (hs : s.size ≤ 900000) (ht : t.size ≤ 900000) (hk : 24 ≤ k) : rivuletref23_Put.j4 (k + 2) S a n N K s t b T = some (accT (hasB a) S (vT s t) 2) := by
  simp only [rivuletref23_Put.j4]
  have z := enc_size s.size
  rw [has5, Option.bind_some]
  unfold accT accT accT
  cases bH (hasB a) 5 with
  | false => rw [if_neg (by decide), rp_j5 k S (by omega) ht hk]; rfl
  | true => rw [if_pos rfl, rtext_enc (by omega) (by omega), Option.bind_some, if_pos (by rw [ByteArray.size_append]; omega), rp_j5 k _ (by rw [ByteArray.size_append, ByteArray.size_append]; omega) ht hk]; rfl
theorem rp_end (k : Nat) (S : ByteArray) (hS : S.size ≤ 1000) (hs : s.size ≤ 900000) (ht : t.size ≤ 900000) (hk : 24 ≤ k) : rivuletref23_Put.l0 (k + 6) S [n, N, K, T] 4 a n N K s t b T = some (accT (hasB a) (accF (hasB a) S b) (vT s t) 2) := by
  have s1 : (S ++ (⟨#[1]⟩ : ByteArray)).size = S.size + 1 := by rw [ByteArray.size_append]; rfl
  have s0 : (S ++ (⟨#[0]⟩ : ByteArray)).size = S.size + 1 := by rw [ByteArray.size_append]; rfl
  have q1 : S.size + 1 ≤ 9223372036854775807 := by omega
  unfold accF flagS
  cases hb : bH (hasB a) 4 with
  | false =>
    simp only [rivuletref23_Put.l0, if_neg (show ¬ ((4 : Int) < 4) by omega), has4, hb, Option.bind_some, Bool.false_eq_true, if_false, rivuletref23_Put.j1, rivuletref23_Put.j2, rivuletref23_Put.j3]
    exact rp_j4 k S (by omega) hs ht hk
  | true =>
    cases b with
    | true =>
      simp only [rivuletref23_Put.l0, if_neg (show ¬ ((4 : Int) < 4) by omega), has4, hb, Option.bind_some, Bool.not_true, Bool.false_eq_true, if_false, if_true, rivuletref23_Put.j1, rivuletref23_Put.j2, rivuletref23_Put.j3, if_pos q1]
      exact rp_j4 k _ (by omega) hs ht hk
    | false =>
      simp only [rivuletref23_Put.l0, if_neg (show ¬ ((4 : Int) < 4) by omega), has4, hb, Option.bind_some, Bool.not_false, Bool.false_eq_true, if_false, if_true, rivuletref23_Put.j1, rivuletref23_Put.j2, rivuletref23_Put.j3, if_pos q1]
      exact rp_j4 k _ (by omega) hs ht hk
theorem vN_bd {n N K T : Int} (h0 : 0 ≤ n ∧ n ≤ 7) (h1 : 0 ≤ N ∧ N ≤ 1099511627776) (h2 : 0 ≤ K ∧ K ≤ 1099511627776) (h3 : 0 ≤ T ∧ T ≤ 1000) (i : Nat) : 0 ≤ vN n N K T i ∧ vN n N K T i ≤ 1099511627776 := by
  unfold vN
  split <;> omega
theorem rput_f (hs : s.size ≤ 900000) {k : Nat} (hk : 2 * s.size + 60 < k) : rivuletref23_Put.f k a n N K s t b T = some (putA a n N K s t b T) := by
  unfold rivuletref23_Put.f putA
  rw [rright_f a n N K s t b T hs (by omega), Option.bind_some]
  cases hq : rightA a n N K s t b T with
  | false => rw [if_neg (by decide), if_neg (by decide)]
  | true =>
    obtain ⟨k', rfl⟩ : ∃ m, k = m + 10 := ⟨k - 10, by omega⟩
    obtain ⟨_, _, _, h0, h1, h2, h3, ht⟩ := rightA_all hq
    have hv := vN_bd h0 h1 h2 h3
    have hz := fun i => accN_size (hasB a) (headS a) (vN n N K T) i
    have hd : (headS a).size = 1 := by unfold headS; rw [strOfNums_size]; rfl
    have z0 := hz 1
    have z1 := hz 2
    have z2 := hz 3
    have z3 := hz 4
    rw [if_pos rfl, if_pos rfl, show rivuletref23_numbers.f a n N K s t b T = some [n, N, K, T] from rfl, Option.bind_some]
    show rivuletref23_Put.l0 (k' + 9 + 1) (headS a) [n, N, K, T] ((0 : Nat) : Int) a n N K s t b T = _
    rw [rp_step (by decide) (hv 0) _ (by omega) (by omega)]
    show rivuletref23_Put.l0 (k' + 8 + 1) (accN (hasB a) (headS a) (vN n N K T) 1) [n, N, K, T] ((1 : Nat) : Int) a n N K s t b T = _
    rw [rp_step (by decide) (hv 1) _ (by omega) (by omega)]
    show rivuletref23_Put.l0 (k' + 7 + 1) (accN (hasB a) (headS a) (vN n N K T) 2) [n, N, K, T] ((2 : Nat) : Int) a n N K s t b T = _
    rw [rp_step (by decide) (hv 2) _ (by omega) (by omega)]
    show rivuletref23_Put.l0 (k' + 6 + 1) (accN (hasB a) (headS a) (vN n N K T) 3) [n, N, K, T] ((3 : Nat) : Int) a n N K s t b T = _
    rw [rp_step (by decide) (hv 3) _ (by omega) (by omega)]
    exact rp_end k' _ (by show (accN (hasB a) (headS a) (vN n N K T) 4).size ≤ 1000; omega) hs (by omega) (by omega)
end
section
end
end Go.Proofs.YtjjimkmbbifbjaaDoor.SP
