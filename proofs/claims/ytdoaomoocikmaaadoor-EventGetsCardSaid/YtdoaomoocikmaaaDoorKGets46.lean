import Derived.Test.YtdoaomoocikmaaaDoorKGets33
import Derived.Test.YtdoaomoocikmaaaDoorKGets39
import Derived.Test.YtdoaomoocikmaaaDoorKGets41
import Derived.Test.YtdoaomoocikmaaaDoorKGets43
import Derived.Test.YtdoaomoocikmaaaDoorKGets45
import Derived.Test.YtdoaomoocikmaaaDoorKGets40
namespace Go.Proofs.YtdoaomoocikmaaaDoor.ER
open Go Go.RowKit Go.Proofs.YtdoaomoocikmaaaDoor Go.Proofs.YtdoaomoocikmaaaDoor.VP Go.Proofs.YtdoaomoocikmaaaDoor.VF Go.Proofs.YtdoaomoocikmaaaDoor.TP Go.Proofs.YtdoaomoocikmaaaDoor.EB Go.Proofs.YtdoaomoocikmaaaDoor.EW Go.Proofs.YtdoaomoocikmaaaDoor.Pr Go.Proofs.YtdoaomoocikmaaaDoorW.PrintWords
abbrev MK := S55
theorem in_f (a b c : Int) : rivuletref06_in.f a b c = some (decide (b ≤ a ∧ a ≤ c)) := by
  unfold rivuletref06_in.f
  by_cases h : a ≥ b
  · rw [if_pos h]
    congr 1
    rw [decide_eq_decide]
    omega
  · rw [if_neg h, decide_eq_false (by omega)]
theorem rright_f (o s : Int) (t l : ByteArray) (m : Int) (ht : t.size ≤ 900000) : rivuletref06_Right.f o s t l m = some (rightE o s t l m) := by
  unfold rivuletref06_Right.f rightE
  rw [in_f, Option.bind_some]
  cases h1 : decide (0 ≤ o ∧ o ≤ 1099511627776) with
  | false => rw [if_neg (by decide)]; rfl
  | true =>
    rw [if_pos rfl, in_f, Option.bind_some]
    cases h2 : decide (1 ≤ s ∧ s ≤ 1099511627776) with
    | false => rw [if_neg (by decide)]; rfl
    | true =>
      rw [if_pos rfl, show rivuletref03_Right.f t = some (rightB t) from if_pos ht, Option.bind_some]
      cases h4 : rightB t with
      | false => rw [if_neg (by decide)]; simp
      | true =>
        rw [if_pos rfl]
        by_cases h5 : (l.size : Int) ≤ 64
        · rw [if_pos h5, in_f, Option.bind_some, decide_eq_true (show l.size ≤ 64 by omega)]
          simp
        · rw [if_neg h5, decide_eq_false (show ¬ l.size ≤ 64 by omega)]
          simp
theorem rp {n : Int} (h0 : 0 ≤ n) (h1 : n ≤ 18446744073709551615) : rivuletref01_Put.f n = some (strOfNums (enc n)) := if_pos ⟨h0, h1⟩
theorem un_len (l : List MK) : (unM l).length = l.length := List.length_map _
theorem re_len (l : List (Int × Int)) : (reM l).length = l.length := List.length_map _
theorem rdM (l : List MK) {i : Nat} (h : i < l.length) : rd_T55 l (i : Int) = l[i]'h := by
  unfold rd_T55
  rw [Int.toNat_natCast, List.getD_eq_getElem?_getD, List.getElem?_eq_getElem h]
  rfl
theorem wi {i : Nat} (h : i ≤ 4611686018427387904) : wrap64 ((i : Int) + 1) = ((i + 1 : Nat) : Int) := by rw [w64 (by omega)]; rfl
theorem equal_loop (l m : List MK) (hl : l.length ≤ 4611686018427387904) (hm : l.length = m.length) : ∀ (d k i : Nat), i + d = l.length → d < k → rivuletref06_Equal.l0 k l m i = some (decide (unM (l.drop i) = unM (m.drop i))) := by
  intro d
  induction d with
  | zero =>
    intro k i hi hk
    obtain ⟨k, rfl⟩ : ∃ j, k = j + 1 := ⟨k - 1, by omega⟩
    simp only [rivuletref06_Equal.l0]
    rw [if_neg (by omega), List.drop_of_length_le (by omega), List.drop_of_length_le (by omega)]
    rfl
  | succ d ih =>
    intro k i hi hk
    obtain ⟨k, rfl⟩ : ∃ j, k = j + 1 := ⟨k - 1, by omega⟩
    have h1 : i < l.length := by omega
    have h2 : i < m.length := by omega
    simp only [rivuletref06_Equal.l0]
    rw [if_pos (by omega), if_pos (by omega), if_pos (by omega), rdM l h1, rdM m h2, wi (by omega), ih k (i + 1) (by omega) (by omega), List.drop_eq_getElem_cons h1, List.drop_eq_getElem_cons h2]
    generalize l[i]'h1 = x
    generalize m[i]'h2 = y
    obtain ⟨x0, x1⟩ := x
    obtain ⟨y0, y1⟩ := y
    by_cases e : x0 = y0 ∧ x1 = y1
    · rw [if_neg (by simp [e.1, e.2]), e.1, e.2]
      congr 1
      rw [decide_eq_decide]
      simp [unM]
    · rw [if_pos (by
        simp only [Bool.or_eq_true, Bool.not_eq_true', beq_eq_false_iff_ne, ne_eq]
        by_cases g : x0 = y0
        · exact .inr fun g2 => e ⟨g, g2⟩
        · exact .inl g), decide_eq_false (fun g => e (by
        simp only [unM, List.map_cons, List.cons.injEq, Prod.mk.injEq] at g
        exact g.1))]
theorem requal_f (l m : List MK) (hl : l.length ≤ 4611686018427387904) {k : Nat} (hk : l.length < k) : rivuletref06_Equal.f k l m = some (decide (unM l = unM m)) := by
  unfold rivuletref06_Equal.f
  by_cases h : l.length = m.length
  · rw [if_pos (by omega)]
    exact equal_loop l m hl h l.length k 0 (by omega) hk
  · rw [if_neg (by omega), decide_eq_false (fun g => h (by rw [← un_len l, ← un_len m, g]))]
theorem sorted_loop (L : List MK) (hl : L.length ≤ 4611686018427387904) : ∀ (d k i : Nat) (last : Int), i + d = L.length → d < k → (i = 0 ∧ last = -1 ∨ ∃ (j : Nat) (h : j < L.length), i = j + 1 ∧ last = (L[j]'h).f0 ∧ 0 ≤ last) →
    rivuletref06_Sorted.l0 k L i = some (srt last ((unM L).drop i) && decide (L.length ≤ 32)) := by
  intro d
  induction d with
  | zero =>
    intro k i last hi hk hlast
    obtain ⟨k, rfl⟩ : ∃ m, k = m + 1 := ⟨k - 1, by omega⟩
    simp only [rivuletref06_Sorted.l0]
    rw [if_neg (by omega), List.drop_of_length_le (by rw [un_len]; omega)]
    simp only [srt, Bool.true_and, Option.some.injEq, decide_eq_decide]
    omega
  | succ d ih =>
    intro k i last hi hk hlast
    obtain ⟨k, rfl⟩ : ∃ m, k = m + 1 := ⟨k - 1, by omega⟩
    have hil : i < L.length := by omega
    simp only [rivuletref06_Sorted.l0]
    have hl1 : -1 ≤ last := by
      rcases hlast with ⟨_, h⟩ | ⟨_, _, _, _, h⟩ <;> omega
    rw [if_pos (by omega), if_pos (by omega), rdM L hil, wi (by omega), in_f, Option.bind_some, List.drop_eq_getElem_cons (by rw [un_len]; exact hil)]
    rw [show (unM L)[i]'(by rw [un_len]; exact hil) = ((L[i]'hil).f0, (L[i]'hil).f1) by simp [unM]]
    simp only [srt]
    have hrest := fun (h : 0 ≤ (L[i]'hil).f0) => ih k (i + 1) (L[i]'hil).f0 (by omega) (by omega) (.inr ⟨i, hil, rfl, rfl, h⟩)
    by_cases a1 : 0 ≤ (L[i]'hil).f0 ∧ (L[i]'hil).f0 ≤ 1099511627776
    · rw [if_pos (decide_eq_true a1), in_f, Option.bind_some]
      by_cases a2 : 1 ≤ (L[i]'hil).f1 ∧ (L[i]'hil).f1 ≤ 1099511627776
      · rw [if_pos (decide_eq_true a2), decide_eq_true a1.2, decide_eq_true a2.1, decide_eq_true a2.2]
        rcases hlast with ⟨rfl, rfl⟩ | ⟨j, hj, rfl, rfl, h0⟩
        · rw [if_neg (by omega), hrest a1.1, decide_eq_true (show (-1 : Int) < (L[0]'hil).f0 by omega)]
          simp
        · rw [if_pos (by omega), show wrap64 (((j + 1 : Nat) : Int) - 1) = (j : Int) by rw [w64 (by omega)]; omega, if_pos (by omega), if_pos (by omega), rdM L hj]
          by_cases g : (L[j]'hj).f0 ≥ (L[j + 1]'hil).f0
          · rw [if_pos g, decide_eq_false (show ¬ (L[j]'hj).f0 < (L[j + 1]'hil).f0 by omega)]
            simp
          · rw [if_neg g, hrest a1.1, decide_eq_true (show (L[j]'hj).f0 < (L[j + 1]'hil).f0 by omega)]
            simp
      · rw [if_neg (by simpa using a2)]
        by_cases a3 : 1 ≤ (L[i]'hil).f1
        · rw [decide_eq_false (show ¬ (L[i]'hil).f1 ≤ 1099511627776 from fun g => a2 ⟨a3, g⟩)]
          simp
        · rw [decide_eq_false a3]
          simp
    · rw [if_neg (by simpa using a1)]
      by_cases a3 : last < (L[i]'hil).f0
      · rw [decide_eq_false (show ¬ (L[i]'hil).f0 ≤ 1099511627776 from fun g => a1 ⟨by omega, g⟩)]
        simp
      · rw [decide_eq_false a3]
        simp
theorem rsorted_f (L : List MK) (hl : L.length ≤ 4611686018427387904) {k : Nat} (hk : L.length < k) : rivuletref06_Sorted.f k L = some (sortedB (unM L)) := by
  unfold rivuletref06_Sorted.f sortedB
  have := sorted_loop L hl L.length k 0 (-1) (by omega) hk (.inl ⟨rfl, rfl⟩)
  rw [show ((0 : Nat) : Int) = 0 from rfl, List.drop_zero] at this
  rw [this, un_len]
theorem marks_loop (L : List MK) (hl : L.length ≤ 32) (hb : ∀ m ∈ unM L, 0 ≤ m.1 ∧ m.1 ≤ 1099511627776 ∧ 1 ≤ m.2 ∧ m.2 ≤ 1099511627776) : ∀ (d k i : Nat) (acc : List Int), i + d = L.length → d < k → acc.length + d * 18 ≤ 100000 →
    rivuletref06_Marks.l0 k L (strOfNums acc) i = some (strOfNums (acc ++ encM ((unM L).drop i))) := by
  intro d
  induction d with
  | zero =>
    intro k i acc hi hk ha
    obtain ⟨k, rfl⟩ : ∃ m, k = m + 1 := ⟨k - 1, by omega⟩
    simp only [rivuletref06_Marks.l0]
    rw [if_neg (by omega), List.drop_of_length_le (by rw [un_len]; omega)]
    simp [encM]
  | succ d ih =>
    intro k i acc hi hk ha
    obtain ⟨k, rfl⟩ : ∃ m, k = m + 1 := ⟨k - 1, by omega⟩
    have hil : i < L.length := by omega
    have hiu : i < (unM L).length := by rw [un_len]; omega
    have hm := hb _ (List.getElem_mem hiu)
    simp only [rivuletref06_Marks.l0]
    rw [if_pos (by omega), if_pos (by omega), rdM L hil, wi (by omega), List.drop_eq_getElem_cons hiu]
    rw [show (unM L)[i]'hiu = ((L[i]'hil).f0, (L[i]'hil).f1) by simp [unM]] at hm ⊢
    generalize L[i]'hil = m at *
    rw [u64 (by omega), u64 (by omega), rp (by omega) (by omega), Option.bind_some, rp (by omega) (by omega), Option.bind_some]
    have z1 := sz_bd m.f0
    have z2 := sz_bd m.f1
    have y1 := enc_length m.f0
    have y2 := enc_length m.f1
    rw [if_pos (by rw [son_size, son_size]; omega), son_append, son_append, if_pos (by rw [son_size, son_size, List.length_append]; omega), ih k (i + 1) _ (by omega) (by omega) (by simp only [List.length_append]; omega)]
    simp only [encM, List.append_assoc]
def capN (n : Int) : Int := if 1099511627777 ≤ n then 1099511627777 else n
def numsS (s : ByteArray) : Nat → Int → List Int × Int × Int
  | 0, a => ([], a, 0)
  | n + 1, a => if (VF.getS s a).2.2 ≠ 0 then ([], 0, (VF.getS s a).2.2) else
    let r := numsS s n (VF.getS s a).2.1
    if r.2.2 ≠ 0 then ([], 0, r.2.2) else (capN (VF.getS s a).1 :: r.1, r.2.1, 0)
theorem numsS_len (s : ByteArray) : ∀ (n : Nat) (a : Int), (numsS s n a).2.2 = 0 → (numsS s n a).1.length = n
  | 0, a, _ => rfl
  | n + 1, a, h => by
    simp only [numsS] at h ⊢
    by_cases h1 : (VF.getS s a).2.2 ≠ 0
    · rw [if_pos h1] at h
      exact absurd h h1
    · rw [if_neg h1] at h ⊢
      by_cases h2 : (numsS s n (VF.getS s a).2.1).2.2 ≠ 0
      · rw [if_pos h2] at h
        exact absurd h h2
      · rw [if_neg h2]
        simp [numsS_len s n _ (by simpa using h2)]
theorem rg {s : ByteArray} (hs : s.size ≤ 140737488351232) (a : Int) : rivuletref01_Get.f s a = some (VF.getS s a) := if_pos hs
theorem rc {s : ByteArray} (hs : s.size ≤ 140737488351232) (a : Int) : rivuletref01_Cut.f s a = some (VF.cutS s a) := if_pos hs
theorem nums_loop (s : ByteArray) (hs : s.size ≤ 140737488351232) (N : Int) (hN : 0 ≤ N ∧ N ≤ 100000) : ∀ (d k i : Nat) (a : Int) (acc : List Int), (i : Int) + d = N → d < k → acc.length ≤ i →
    rivuletref06_nums.l0 k s a N acc i = some (if (numsS s d a).2.2 ≠ 0 then ([], 0, (numsS s d a).2.2) else (acc ++ (numsS s d a).1, (numsS s d a).2.1, 0)) := by
  intro d
  induction d with
  | zero =>
    intro k i a acc hi hk ha
    obtain ⟨k, rfl⟩ : ∃ m, k = m + 1 := ⟨k - 1, by omega⟩
    simp only [rivuletref06_nums.l0]
    rw [if_neg (by omega)]
    simp [numsS]
  | succ d ih =>
    intro k i a acc hi hk ha
    obtain ⟨k, rfl⟩ : ∃ m, k = m + 1 := ⟨k - 1, by omega⟩
    simp only [rivuletref06_nums.l0]
    rw [if_pos (by omega), rg hs, Option.bind_some, wi (by omega)]
    simp only [numsS]
    by_cases h1 : (VF.getS s a).2.2 = 0
    · rw [if_pos h1, if_neg (show ¬ (VF.getS s a).2.2 ≠ 0 from fun g => g h1)]
      have h0 := get_bd (s := s) a
      have hcap : (if (VF.getS s a).1 > 1099511627776 then (if acc.length < 17592186044416 then (rivuletref06_nums.l0 k s (VF.getS s a).2.1 N (acc ++ [1099511627777]) ((i + 1 : Nat) : Int)) else (none)) else (if acc.length < 17592186044416 then (rivuletref06_nums.l0 k s (VF.getS s a).2.1 N (acc ++ [wrap64 ((VF.getS s a).1)]) ((i + 1 : Nat) : Int)) else (none))) = rivuletref06_nums.l0 k s (VF.getS s a).2.1 N (acc ++ [capN (VF.getS s a).1]) ((i + 1 : Nat) : Int) := by
        unfold capN
        by_cases g : (VF.getS s a).1 > 1099511627776
        · rw [if_pos g, if_pos (by omega), if_pos (show 1099511627777 ≤ (VF.getS s a).1 by omega)]
        · rw [if_neg g, if_pos (by omega), if_neg (show ¬ 1099511627777 ≤ (VF.getS s a).1 by omega), w64 (by omega)]
      refine hcap.trans ?_
      rw [ih k (i + 1) _ _ (by omega) (by omega) (by simp; omega)]
      by_cases h2 : (numsS s d (VF.getS s a).2.1).2.2 ≠ 0
      · rw [if_pos h2, if_pos h2, if_pos h2]
      · rw [if_neg h2, if_neg h2, if_neg (by simp)]
        simp
    · rw [if_neg h1, if_pos (show (VF.getS s a).2.2 ≠ 0 from h1), if_pos (show (VF.getS s a).2.2 ≠ 0 from h1)]
theorem rnums_f (s : ByteArray) (hs : s.size ≤ 140737488351232) (a : Int) (n : Nat) (hn : n ≤ 100000) {k : Nat} (hk : n < k) : rivuletref06_nums.f k s a n = some (numsS s n a) := by
  unfold rivuletref06_nums.f
  have := nums_loop s hs n (by omega) n k 0 a [] (by omega) hk (by simp)
  rw [show ((0 : Nat) : Int) = 0 from rfl] at this
  rw [this]
  by_cases h2 : (numsS s n a).2.2 ≠ 0
  · rw [if_pos h2]
    congr 1
    cases n with
    | zero => exact absurd rfl h2
    | succ n =>
      simp only [numsS] at h2 ⊢
      by_cases h1 : (VF.getS s a).2.2 ≠ 0
      · rw [if_pos h1]
      · rw [if_neg h1] at h2 ⊢
        by_cases h3 : (numsS s n (VF.getS s a).2.1).2.2 ≠ 0
        · rw [if_pos h3]
        · rw [if_neg h3] at h2
          exact absurd rfl h2
  · rw [if_neg h2, List.nil_append]
    congr 1
    have : (numsS s n a).2.2 = 0 := by simpa using h2
    rw [← this]
theorem cutS_size (s : ByteArray) (a : Int) : (VF.cutS s a).1.size ≤ s.size := by
  unfold VF.cutS
  repeat' split
  all_goals first
    | exact Nat.zero_le _
    | (simp only [ByteArray.size_extract]; omega)
theorem rget_f (s : ByteArray) (hs : s.size ≤ 900000) (a : Int) {k : Nat} (hk : 4 ≤ k) : rivuletref06_Get.f k s a = some (getE s a) := by
  unfold rivuletref06_Get.f
  have hn := rnums_f s (by omega) a 3 (by omega) (show 3 < k by omega)
  rw [show ((3 : Nat) : Int) = 3 from rfl] at hn
  rw [hn, Option.bind_some]
  unfold getE read5 numS textS
  simp only [numsS]
  by_cases h1 : (VF.getS s a).2.2 = 0
  · by_cases h2 : (VF.getS s (VF.getS s a).2.1).2.2 = 0
    · by_cases h3 : (VF.getS s (VF.getS s (VF.getS s a).2.1).2.1).2.2 = 0
      · simp only [h1, h2, h3, ne_eq, not_true, if_false, if_true]
        rw [rc (by omega), Option.bind_some]
        by_cases h4 : (VF.cutS s (VF.getS s (VF.getS s (VF.getS s a).2.1).2.1).2.1).2.2 = 0
        · simp only [h4, ne_eq, not_true, if_false, if_true]
          rw [rc (by omega), Option.bind_some]
          by_cases h5 : (VF.cutS s (VF.cutS s (VF.getS s (VF.getS s (VF.getS s a).2.1).2.1).2.1).2.1).2.2 = 0
          · simp only [h5, ne_eq, not_true, if_false, if_true]
            rw [if_pos (by simp), if_pos (by simp), if_pos (by simp), rright_f _ _ _ _ _ (by have := cutS_size s (VF.getS s (VF.getS s (VF.getS s a).2.1).2.1).2.1; omega), Option.bind_some]
            simp only [rd, capN, Int.toNat_zero, Int.toNat_one, List.getD_cons_zero, List.getD_cons_succ, show Int.toNat 2 = 2 from rfl]
            exact (apply_ite some _ _ _).symm
          · simp only [h5, ne_eq, not_false_eq_true, if_false, if_true]
        · simp only [h4, ne_eq, not_false_eq_true, if_false, if_true]
      · simp only [h1, h2, h3, ne_eq, not_true, not_false_eq_true, if_false, if_true]
    · simp only [h1, h2, ne_eq, not_true, not_false_eq_true, if_false, if_true]
  · simp only [h1, ne_eq, not_true, not_false_eq_true, if_false, if_true]
theorem readM_len (s : ByteArray) : ∀ (n : Nat) (a bad : Int), (readM s n a bad).1.length = n
  | 0, _, _ => rfl
  | n + 1, a, bad => by
    simp only [readM, List.length_cons]
    rw [readM_len s n]
theorem cutE_len (s : ByteArray) (a : Int) : (cutE s a).1.length ≤ 1000 := by
  unfold cutE
  simp only []
  split
  · exact Nat.zero_le _
  · split
    · exact Nat.zero_le _
    · split
      · show (readM s _ _ _).1.length ≤ _
        rw [readM_len]
        omega
      · exact Nat.zero_le _
def pairs : List Int → List (Int × Int)
  | x :: y :: l => (x, y) :: pairs l
  | _ => []
theorem numS_bad (s : ByteArray) (a : Int) {bad : Int} (h : bad ≠ 0) : numS s a bad = (-1, a, bad) := if_pos h
theorem readM_bad (s : ByteArray) : ∀ (n : Nat) (a : Int) {bad : Int}, bad ≠ 0 → (readM s n a bad).2.2 = bad
  | 0, _, _, _ => rfl
  | n + 1, a, bad, h => by
    simp only [readM]
    rw [numS_bad s a h, numS_bad s a h]
    exact readM_bad s n a h
theorem readM_nums (s : ByteArray) : ∀ (n : Nat) (a : Int), ((numsS s (2 * n) a).2.2 = 0 → readM s n a 0 = (pairs (numsS s (2 * n) a).1, (numsS s (2 * n) a).2.1, 0)) ∧ ((numsS s (2 * n) a).2.2 ≠ 0 → (readM s n a 0).2.2 = (numsS s (2 * n) a).2.2)
  | 0, a => ⟨fun _ => rfl, fun h => absurd rfl h⟩
  | n + 1, a => by
    rw [show 2 * (n + 1) = 2 * n + 1 + 1 by omega]
    simp only [numsS, readM]
    unfold numS
    by_cases h1 : (VF.getS s a).2.2 = 0
    · by_cases h2 : (VF.getS s (VF.getS s a).2.1).2.2 = 0
      · obtain ⟨i1, i2⟩ := readM_nums s n (VF.getS s (VF.getS s a).2.1).2.1
        by_cases h3 : (numsS s (2 * n) (VF.getS s (VF.getS s a).2.1).2.1).2.2 = 0
        · simp only [h1, h2, h3, ne_eq, not_true, if_false, i1 h3]
          exact ⟨fun _ => rfl, fun h => h.elim⟩
        · simp only [h1, h2, h3, ne_eq, not_true, not_false_eq_true, if_false, if_true, i2 h3]
          exact ⟨fun h => absurd h (by simp), fun _ => trivial⟩
      · simp only [h1, h2, ne_eq, not_true, not_false_eq_true, if_false, if_true]
        refine ⟨fun h => absurd h (by simp), fun _ => ?_⟩
        exact readM_bad s n _ h2
    · simp only [h1, ne_eq, not_true, not_false_eq_true, if_false, if_true]
      refine ⟨fun h => absurd h (by simp), fun _ => ?_⟩
      exact readM_bad s n _ h1
theorem cut_loop (L : List Int) (to_ : Int) (hl : L.length ≤ 1000) : ∀ (d k i : Nat) (acc : List MK), i + 2 * d = L.length → 2 * d + acc.length + 1 < k → acc.length ≤ i →
    rivuletref06_Cut.l0 k L to_ acc i = some (if sortedB (unM acc ++ pairs (L.drop i)) = true then (acc ++ reM (pairs (L.drop i)), to_, 0) else ([], 0, 4)) := by
  intro d
  induction d with
  | zero =>
    intro k i acc hi hk ha
    obtain ⟨k, rfl⟩ : ∃ m, k = m + 1 := ⟨k - 1, by omega⟩
    simp only [rivuletref06_Cut.l0]
    rw [if_neg (by omega), List.drop_of_length_le (by omega), rsorted_f acc (by omega) (by omega), Option.bind_some]
    simp only [pairs, List.append_nil, show reM [] = [] from rfl]
    split <;> rfl
  | succ d ih =>
    intro k i acc hi hk ha
    obtain ⟨k, rfl⟩ : ∃ m, k = m + 1 := ⟨k - 1, by omega⟩
    simp only [rivuletref06_Cut.l0]
    rw [if_pos (by omega), if_pos (by omega), wi (by omega), if_pos (by omega), if_pos (by omega), if_pos (by omega), show wrap64 ((i : Int) + 2) = ((i + 2 : Nat) : Int) by rw [w64 (by omega)]; rfl,
      ih k (i + 2) _ (by omega) (by simp; omega) (by simp; omega), List.drop_eq_getElem_cons (show i < L.length by omega), List.drop_eq_getElem_cons (show i + 1 < L.length by omega)]
    simp only [pairs]
    rw [show rd L (i : Int) = L[i]'(by omega) by unfold rd; rw [Int.toNat_natCast, List.getD_eq_getElem?_getD, List.getElem?_eq_getElem (by omega)]; rfl,
      show rd L ((i + 1 : Nat) : Int) = L[i + 1]'(by omega) by unfold rd; rw [Int.toNat_natCast, List.getD_eq_getElem?_getD, List.getElem?_eq_getElem (by omega)]; rfl]
    simp [unM, reM]
theorem rcut_f (s : ByteArray) (hs : s.size ≤ 900000) (a : Int) {k : Nat} (hk : 300 ≤ k) : rivuletref06_Cut.f k s a = some (reM (cutE s a).1, (cutE s a).2.1, (cutE s a).2.2) := by
  unfold rivuletref06_Cut.f cutE
  rw [rg (by omega), Option.bind_some]
  have h0 := get_bd (s := s) a
  by_cases h1 : (VF.getS s a).2.2 = 0
  · rw [if_pos h1]
    have en : numS s a 0 = (capN (VF.getS s a).1, (VF.getS s a).2.1, 0) := by
      unfold numS capN
      rw [if_neg (by simp), if_neg (by simpa using h1)]
    simp only [en]
    have hcap : (capN (VF.getS s a).1 > 32) = ((VF.getS s a).1 > 32) := by
      unfold capN
      split
      · simp; omega
      · rfl
    simp only [hcap]
    by_cases h2 : (VF.getS s a).1 > 32
    · rw [if_pos h2, if_pos h2]
      rfl
    · rw [if_neg h2, if_neg h2, show wrap64 (VF.getS s a).1 = (VF.getS s a).1 from w64 (by omega), w64 (by omega)]
      have hc : capN (VF.getS s a).1 = (VF.getS s a).1 := by
        unfold capN
        rw [if_neg (by omega)]
      rw [hc]
      obtain ⟨n, hn⟩ := Int.eq_ofNat_of_zero_le h0
      rw [hn, Int.toNat_natCast, show 2 * (n : Int) = ((2 * n : Nat) : Int) by omega, rnums_f s (by omega) _ (2 * n) (by omega) (by omega), Option.bind_some]
      obtain ⟨r1, r2⟩ := readM_nums s n (VF.getS s a).2.1
      by_cases h3 : (numsS s (2 * n) (VF.getS s a).2.1).2.2 = 0
      · have hlen := numsS_len s (2 * n) _ h3
        have := cut_loop (numsS s (2 * n) (VF.getS s a).2.1).1 (numsS s (2 * n) (VF.getS s a).2.1).2.1 (by omega) n k 0 [] (by omega) (by simp; omega) (by simp)
        rw [show ((0 : Nat) : Int) = 0 from rfl] at this
        rw [if_pos h3, r1 h3, this]
        simp only [ne_eq, not_true, if_false, List.drop_zero, List.nil_append, show unM [] = [] from rfl]
        split <;> rfl
      · rw [if_neg h3, if_pos (by rw [r2 h3]; exact h3), r2 h3]
        rfl
  · rw [if_neg h1]
    have en : numS s a 0 = (-1, a, (VF.getS s a).2.2) := by
      unfold numS
      rw [if_neg (by simp), if_pos (by simpa using h1)]
    simp only [en]
    rw [if_neg (by decide)]
    simp only [show Int.toNat (-1) = 0 from rfl, readM]
    rw [if_pos h1]
    rfl
theorem fixed_true {k : Nat} (hk : 4 ≤ k) : rivuletlaw06_fixed.f k = some true := at_rounds rivuletlaw06_fixed.mono hk (by
  unfold rivuletlaw06_fixed.f
  simp only [EF.f12, VF.toList_eq]
  decide +kernel)
end Go.Proofs.YtdoaomoocikmaaaDoor.ER
