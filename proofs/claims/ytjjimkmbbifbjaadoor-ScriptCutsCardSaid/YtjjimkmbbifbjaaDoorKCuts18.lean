import Derived.Test.YtjjimkmbbifbjaaDoorKCuts14
import Derived.Test.YtjjimkmbbifbjaaDoorKCuts12
import Derived.Test.YtjjimkmbbifbjaaDoorKCuts16
import Derived.Test.YtjjimkmbbifbjaaDoorKCuts10
import Derived.Test.YtjjimkmbbifbjaaDoorKCuts11
import Derived.Test.YtjjimkmbbifbjaaDoorKCuts17
import Derived.Test.YtjjimkmbbifbjaaDoorKCuts15
namespace Go.Proofs.YtjjimkmbbifbjaaDoor.SP
open Go Go.RowKit Go.Proofs.YtjjimkmbbifbjaaDoor Go.Proofs.YtjjimkmbbifbjaaDoor.SW Go.Proofs.YtjjimkmbbifbjaaDoor.TP Go.Proofs.YtjjimkmbbifbjaaDoor.TF Go.Proofs.YtjjimkmbbifbjaaDoor.Pv Go.Proofs.YtjjimkmbbifbjaaDoorW.PrintWords
def empt (s : ByteArray) : Bool := decide (s.size = 0)
def bareP (h n N K : Int) (s t : ByteArray) (b : Bool) (T : Int) : Bool :=
  (bH h 0 || n == 0) && ((bH h 1 || N == 0) && ((bH h 2 || K == 0) && ((bH h 5 || empt s) && ((bH h 6 || empt t) && ((bH h 4 || !b) && (bH h 3 || T == 0))))))
def inP (n N K : Int) (t : ByteArray) (T : Int) : Bool := decide (0 ≤ n ∧ n ≤ 7) && (decide (0 ≤ N ∧ N ≤ 1099511627776) && (decide (0 ≤ K ∧ K ≤ 1099511627776) && (decide (0 ≤ T ∧ T ≤ 1000) && decide (t.size ≤ 64))))
def topP (k : Int) (s : ByteArray) : Bool := if k = 0 then rightB s else if k = 3 then filterB s else true
def rightA (k n N K : Int) (s t : ByteArray) (b : Bool) (T : Int) : Bool := decide (0 ≤ k ∧ k < 11) && (bareP (hasB k) n N K s t b T && (topP k s && inP n N K t T))
theorem has_out {k : Int} (h : ¬ (0 ≤ k ∧ k < 11)) : hasB k = 0 := if_neg h
theorem has_in {k : Int} (h : 0 ≤ k ∧ k < 11) : hasB k ≠ 0 := by
  have hk : k = 0 ∨ k = 1 ∨ k = 2 ∨ k = 3 ∨ k = 4 ∨ k = 5 ∨ k = 6 ∨ k = 7 ∨ k = 8 ∨ k = 9 ∨ k = 10 := by omega
  rcases hk with rfl | rfl | rfl | rfl | rfl | rfl | rfl | rfl | rfl | rfl | rfl <;> decide
theorem bit5 {k : Int} (h : 0 ≤ k ∧ k < 11) : bH (hasB k) 5 = (decide (k = 0) || decide (k = 3)) := by
  have hk : k = 0 ∨ k = 1 ∨ k = 2 ∨ k = 3 ∨ k = 4 ∨ k = 5 ∨ k = 6 ∨ k = 7 ∨ k = 8 ∨ k = 9 ∨ k = 10 := by omega
  rcases hk with rfl | rfl | rfl | rfl | rfl | rfl | rfl | rfl | rfl | rfl | rfl <;> decide
theorem empt_eq (s : ByteArray) : ((⟨#[]⟩ : ByteArray).toList == s.toList) = empt s := by
  unfold empt
  rw [Bool.eq_iff_iff, beq_iff_eq, tl_inj, decide_eq_true_eq]
  constructor
  · intro h; subst h; rfl
  · intro h
    apply ByteArray.ext
    exact (Array.eq_empty_of_size_eq_zero h).symm
theorem eI (h : Int) (i : Nat) (v : Int) : (cI h i v == v) = (bH h i || v == 0) := by
  unfold cI
  cases bH h i
  · simp only [Bool.false_eq_true, if_false, Bool.false_or]; rw [Bool.eq_iff_iff, beq_iff_eq, beq_iff_eq]; exact eq_comm
  · simp
theorem eS (h : Int) (i : Nat) (v : ByteArray) : ((cS h i v).toList == v.toList) = (bH h i || empt v) := by
  unfold cS
  cases bH h i
  · rw [if_neg (by decide), empt_eq]; rfl
  · simp
theorem eB (h : Int) (i : Nat) (v : Bool) : (cB h i v == v) = (bH h i || !v) := by
  unfold cB
  cases bH h i <;> cases v <;> rfl
theorem cmp_bare {k : Int} (hk : hasB k ≠ 0) (n N K : Int) (s t : ByteArray) (b : Bool) (T : Int) :
    (!(kI (hasB k) k == k) || (!(cI (hasB k) 0 n == n) || (!(cI (hasB k) 1 N == N) || (!(cI (hasB k) 2 K == K) || (!((cS (hasB k) 5 s).toList == s.toList) || (!((cS (hasB k) 6 t).toList == t.toList) || (!(cB (hasB k) 4 b == b) || !(cI (hasB k) 3 T == T)))))))) = !bareP (hasB k) n N K s t b T := by
  rw [eI, eI, eI, eI, eS, eS, eB, show kI (hasB k) k = k from if_neg hk]
  unfold bareP
  simp only [BEq.rfl, Bool.not_true, Bool.false_or, Bool.not_and]
theorem within_f (a b : Int) : script_within.f a b = some (decide (0 ≤ a ∧ a ≤ b)) := by
  unfold script_within.f
  by_cases h : a ≥ 0
  · rw [if_pos h]
    congr 1
    rw [decide_eq_decide]
    omega
  · rw [if_neg h, decide_eq_false (by omega)]
theorem j2_f (k : Nat) (x : Bool) (a n N K : Int) (s t : ByteArray) (b : Bool) (T : Int) : script_Right.j2 (k + 1) x a n N K s t b T = some (x && inP n N K t T) := by
  simp only [script_Right.j2, within_f, Option.bind_some]
  unfold inP
  cases x with
  | false => rw [if_neg (by decide)]; rfl
  | true =>
    rw [if_pos rfl]
    cases h1 : decide (0 ≤ n ∧ n ≤ 7) with
    | false => rw [if_neg (by decide)]; rfl
    | true =>
      rw [if_pos rfl]
      cases h2 : decide (0 ≤ N ∧ N ≤ 1099511627776) with
      | false => rw [if_neg (by decide)]; rfl
      | true =>
        rw [if_pos rfl]
        cases h3 : decide (0 ≤ K ∧ K ≤ 1099511627776) with
        | false => rw [if_neg (by decide)]; rfl
        | true =>
          rw [if_pos rfl]
          cases h4 : decide (0 ≤ T ∧ T ≤ 1000) with
          | false => rw [if_neg (by decide)]; rfl
          | true =>
            rw [if_pos rfl]
            simp only [Bool.true_and, Option.some.injEq, decide_eq_decide]
            omega
theorem bare_f (a n N K : Int) (s t : ByteArray) (b : Bool) (T : Int) : script_Bare.f a n N K s t b T = some (kI (hasB a) a, cI (hasB a) 0 n, cI (hasB a) 1 N, cI (hasB a) 2 K, cS (hasB a) 5 s, cS (hasB a) 6 t, cB (hasB a) 4 b, cI (hasB a) 3 T) := rfl
theorem right_f (a n N K : Int) (s t : ByteArray) (b : Bool) (T : Int) (hs : s.size ≤ 900000) {k : Nat} (hk : 3 ≤ k) : script_Right.f k a n N K s t b T = some (rightA a n N K s t b T) := by
  obtain ⟨k, rfl⟩ : ∃ m, k = m + 3 := ⟨k - 3, by omega⟩
  unfold script_Right.f rightA
  rw [show script_has.f a = some (hasB a) from rfl, Option.bind_some]
  by_cases ha : 0 ≤ a ∧ a < 11
  · have h0 := has_in ha
    rw [if_neg h0, bare_f, Option.bind_some]
    simp only [cmp_bare h0, decide_eq_true ha, Bool.true_and]
    cases bareP (hasB a) n N K s t b T with
    | false => simp only [script_Right.j0, Bool.not_false, if_true, Bool.false_and]
    | true =>
      simp only [script_Right.j0, Bool.not_true, Bool.false_eq_true, if_false, Bool.true_and]
      have h5 := bit5 ha
      have hb : (Go.bits .and .i64 (hasB a) 32 = 0) ↔ bH (hasB a) 5 = false := by
        unfold bH
        rw [show ((2 ^ 5 : Nat) : Int) = 32 from rfl]
        simp
      unfold topP
      by_cases e0 : a = 0
      · rw [if_neg (by rw [hb, h5, e0]; decide), show topic_Right.f s = some (rightB s) from if_pos hs, Option.bind_some]
        simp only [script_Right.j1, if_neg (show ¬ a = 3 by omega), j2_f, if_pos e0]
      · by_cases e3 : a = 3
        · rw [if_neg (by rw [hb, h5, e3]; decide), show topic_Right.f s = some (rightB s) from if_pos hs, Option.bind_some]
          simp only [script_Right.j1, if_pos e3, show topic_Filter.f s = some (filterB s) from if_pos hs, Option.bind_some, j2_f, if_neg e0]
        · rw [if_pos (by rw [hb, h5]; simp [e0, e3])]
          simp only [script_Right.j1, if_neg e3, j2_f, if_neg e0]
  · rw [has_out ha, if_pos rfl, decide_eq_false ha]
    simp only [script_Right.j0, if_true, Bool.false_and]
end Go.Proofs.YtjjimkmbbifbjaaDoor.SP
