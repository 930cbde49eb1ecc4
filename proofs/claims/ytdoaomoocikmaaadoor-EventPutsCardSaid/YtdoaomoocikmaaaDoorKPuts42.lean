import Derived.Test.YtdoaomoocikmaaaDoorKPuts31
import Derived.Test.YtdoaomoocikmaaaDoorKPuts37
import Derived.Test.YtdoaomoocikmaaaDoorKPuts33
import Derived.Test.YtdoaomoocikmaaaDoorKPuts35
import Derived.Test.YtdoaomoocikmaaaDoorKPuts40
import Derived.Test.YtdoaomoocikmaaaDoorKPuts41
import Derived.Test.YtdoaomoocikmaaaDoorKPuts38
namespace Go.Proofs.YtdoaomoocikmaaaDoor.ER
open Go Go.RowKit Go.Proofs.YtdoaomoocikmaaaDoor Go.Proofs.YtdoaomoocikmaaaDoor.VP Go.Proofs.YtdoaomoocikmaaaDoor.VF Go.Proofs.YtdoaomoocikmaaaDoor.TP Go.Proofs.YtdoaomoocikmaaaDoor.EB Go.Proofs.YtdoaomoocikmaaaDoor.EW Go.Proofs.YtdoaomoocikmaaaDoor.Pr Go.Proofs.YtdoaomoocikmaaaDoorW.PrintWords
abbrev MK := S55
theorem in_f (a b c : Int) : rivuletref06_in.f a b c = some (decide (b ≤ a ∧ a ≤ c)) := by
  unfold rivuletref06_in.f
  by_cases h : a ≥ b
  · rw [if_pos h]
    congr 1
    rw [decide_eq_decide]
    omega
  · rw [if_neg h, decide_eq_false (by omega)]
theorem rright_f (o s : Int) (t l : ByteArray) (m : Int) (ht : t.size ≤ 900000) : rivuletref06_Right.f o s t l m = some (rightE o s t l m) := by
  unfold rivuletref06_Right.f rightE
  rw [in_f, Option.bind_some]
  cases h1 : decide (0 ≤ o ∧ o ≤ 1099511627776) with
  | false => rw [if_neg (by decide)]; rfl
  | true =>
    rw [if_pos rfl, in_f, Option.bind_some]
    cases h2 : decide (1 ≤ s ∧ s ≤ 1099511627776) with
    | false => rw [if_neg (by decide)]; rfl
    | true =>
      rw [if_pos rfl, show rivuletref03_Right.f t = some (rightB t) from if_pos ht, Option.bind_some]
      cases h4 : rightB t with
      | false => rw [if_neg (by decide)]; simp
      | true =>
        rw [if_pos rfl]
        by_cases h5 : (l.size : Int) ≤ 64
        · rw [if_pos h5, in_f, Option.bind_some, decide_eq_true (show l.size ≤ 64 by omega)]
          simp
        · rw [if_neg h5, decide_eq_false (show ¬ l.size ≤ 64 by omega)]
          simp
theorem rp {n : Int} (h0 : 0 ≤ n) (h1 : n ≤ 18446744073709551615) : rivuletref01_Put.f n = some (strOfNums (enc n)) := if_pos ⟨h0, h1⟩
theorem rt {s : ByteArray} (h : s.size ≤ 140737488351232) : rivuletref01_Text.f s = some (strOfNums (enc s.size) ++ s) := if_pos h
theorem right_bd {o q : Int} {t l : ByteArray} {m : Int} (h : rightE o q t l m = true) : (0 ≤ o ∧ o ≤ 1099511627776) ∧ (1 ≤ q ∧ q ≤ 1099511627776) ∧ (0 ≤ m ∧ m ≤ 1000) ∧ rightB t = true ∧ l.size ≤ 64 := by
  unfold rightE at h
  simp only [Bool.and_eq_true, decide_eq_true_eq] at h
  exact ⟨h.1, h.2.1, h.2.2.1, h.2.2.2.1, h.2.2.2.2⟩
theorem rput_f (o q : Int) (t l : ByteArray) (m : Int) (ht : t.size ≤ 900000) (hl : l.size ≤ 900000) : rivuletref06_Put.f o q t l m = some (putB o q t l m) := by
  unfold rivuletref06_Put.f putB
  rw [rright_f o q t l m ht, Option.bind_some]
  cases hq : rightE o q t l m with
  | false => rw [if_neg (by decide), if_neg (by decide)]
  | true =>
    obtain ⟨⟨o0, o1⟩, ⟨q0, q1⟩, ⟨m0, m1⟩, _, l1⟩ := right_bd hq
    have z1 := enc_size o
    have z2 := enc_size q
    have z3 := enc_size m
    have z4 : (strOfNums (enc t.size) ++ t).size ≤ 900009 := by rw [ByteArray.size_append]; have := enc_size t.size; omega
    have z5 : (strOfNums (enc l.size) ++ l).size ≤ 900009 := by rw [ByteArray.size_append]; have := enc_size l.size; omega
    rw [if_pos rfl, if_pos rfl, u64 (by omega), u64 (by omega), u64 (by omega), rp (by omega) (by omega), Option.bind_some, rp (by omega) (by omega), Option.bind_some, if_pos (by omega), rp (by omega) (by omega), Option.bind_some,
      if_pos (by rw [ByteArray.size_append]; omega), rt (by omega), Option.bind_some, if_pos (by rw [ByteArray.size_append, ByteArray.size_append]; omega), rt (by omega), Option.bind_some,
      if_pos (by rw [ByteArray.size_append, ByteArray.size_append, ByteArray.size_append]; omega), put_parts]
theorem dg_nat (u : Nat) (h : u < 10) : strOfNums [(wrap64 (48 + (u : Int))) % 256] = ⟨#[UInt8.ofNat (48 + u)]⟩ := by
  rw [w64 (by omega), show ((48 + (u : Int)) % 256) = ((48 + u : Nat) : Int) by omega]
  rfl
theorem digits_step (K u : Nat) (hb : u ≤ 9223372036854775807) : rivuletref06_Digits.f (K + 2) u = if u < 10 then some ⟨#[UInt8.ofNat (48 + u % 10)]⟩ else (rivuletref06_Digits.f K ((u / 10 : Nat) : Int)).bind fun t => if t.size + 1 ≤ 9223372036854775807 then some (t ++ ⟨#[UInt8.ofNat (48 + u % 10)]⟩) else none := by
  have e1 : Int.tmod (u : Int) 10 = ((u % 10 : Nat) : Int) := by rw [Int.tmod_eq_emod_of_nonneg (by omega)]; omega
  have e2 : wrap64 (Int.tdiv (u : Int) 10) = ((u / 10 : Nat) : Int) := by
    rw [Int.tdiv_eq_ediv_of_nonneg (by omega), w64 (by omega)]
    omega
  simp only [rivuletref06_Digits.f, rivuletref06_Digits.j0]
  rw [e1, if_neg (by omega), e2, Option.bind_some, dg_nat (u % 10) (by omega)]
  by_cases h : u < 10
  · rw [if_pos (by omega), if_neg (by omega), if_pos h]
  · rw [if_neg (by omega), if_neg h]
    rfl
theorem digits_f : ∀ (k u K : Nat), u < 10 ^ (k + 1) → u ≤ 9223372036854775807 → k ≤ 100 → 2 * k + 2 ≤ K → rivuletref06_Digits.f K u = some ⟨(Lib.decDigits u).toArray⟩ ∧ (Lib.decDigits u).length ≤ k + 1 := by
  intro k
  induction k with
  | zero =>
    intro u K hu hb hk hK
    obtain ⟨K, rfl⟩ : ∃ m, K = m + 2 := ⟨K - 2, by omega⟩
    rw [digits_step K u hb, Lib.decDigits, if_pos (by omega), dif_pos (by omega), show u % 10 = u by omega]
    exact ⟨rfl, by simp⟩
  | succ k ih =>
    intro u K hu hb hk hK
    obtain ⟨K, rfl⟩ : ∃ m, K = m + 2 := ⟨K - 2, by omega⟩
    rw [digits_step K u hb, Lib.decDigits]
    by_cases h : u < 10
    · rw [if_pos h, dif_pos h, show u % 10 = u by omega]
      exact ⟨rfl, by simp⟩
    · obtain ⟨i1, i2⟩ := ih (u / 10) K (by rw [Nat.pow_succ] at hu; omega) (by omega) (by omega) (by omega)
      rw [if_neg h, dif_neg h, i1, Option.bind_some, if_pos (by simp [ByteArray.size]; omega)]
      refine ⟨congrArg some (ByteArray.ext (by simp)), by simp; omega⟩
theorem dgt {n : Int} (h0 : 0 ≤ n) (h1 : n ≤ 9223372036854775807) {K : Nat} (hK : 40 ≤ K) : rivuletref06_Digits.f K n = some (itS n) := by
  obtain ⟨u, rfl⟩ := Int.eq_ofNat_of_zero_le h0
  rw [(digits_f 19 u K (by omega) (by omega) (by omega) (by omega)).1]
  unfold itS Lib.itoa
  rw [if_neg (by omega), Int.toNat_natCast]
theorem rshow_f (o q : Int) (t l : ByteArray) (m : Int) (ht : t.size ≤ 900000) {K : Nat} (hK : 40 ≤ K) : rivuletref06_Show.f K o q t l m = some (showB o q t l m) := by
  unfold rivuletref06_Show.f showB
  rw [rright_f o q t l m ht, Option.bind_some]
  cases hq : rightE o q t l m with
  | false => rw [if_neg (by decide), if_neg (by decide)]
  | true =>
    obtain ⟨⟨o0, o1⟩, ⟨q0, q1⟩, ⟨m0, m1⟩, _, l1⟩ := right_bd hq
    rw [if_pos rfl, if_pos rfl, dgt (by omega) (by omega) hK, Option.bind_some, dgt (by omega) (by omega) hK, dgt (by omega) (by omega) hK, dgt (by omega) (by omega) hK]
    simp only [Option.bind_some]
    have z1 := it_size (n := o) (by omega) (by omega)
    have z2 := it_size (n := q) (by omega) (by omega)
    have z3 := it_size (n := (l.size : Int)) (by omega) (by omega)
    have z4 := it_size (n := m) (by omega) (by omega)
    unfold showS
    generalize itS o = I1 at *
    generalize itS q = I2 at *
    generalize itS (l.size : Int) = I3 at *
    generalize itS m = I4 at *
    have c1 : (⟨#[58]⟩ : ByteArray).size = 1 := rfl
    have c2 : (⟨#[32]⟩ : ByteArray).size = 1 := rfl
    simp only [ByteArray.size_append, c1, c2]
    rw [if_pos (by omega), if_pos (by omega), if_pos (by omega), if_pos (by omega), if_pos (by omega), if_pos (by omega), if_pos (by omega), if_pos (by omega)]
def ageT (m n : Int) : Int := if n ≤ 0 then m else if m ≤ n then 0 else m - n
theorem age_f (o q : Int) (t l : ByteArray) {m n : Int} (hm : -9223372036854775808 ≤ m ∧ m ≤ 9223372036854775807) : event_Age.f o q t l m n = some (o, q, t, l, ageT m n) := by
  unfold event_Age.f ageT mx mn
  by_cases h : n > 0
  · rw [if_pos h, if_neg (show ¬ n ≤ 0 by omega)]
    congr 5
    split <;> split <;> (try split) <;> (try rw [w64 (by omega)]) <;> omega
  · rw [if_neg h, if_pos (show n ≤ 0 by omega)]
theorem rage_f (o q : Int) (t l : ByteArray) {m n : Int} (hm : -9223372036854775808 ≤ m ∧ m ≤ 9223372036854775807) : rivuletref06_Age.f o q t l m n = some (o, q, t, l, ageT m n) := by
  unfold rivuletref06_Age.f ageT
  split
  · rfl
  · split
    · rfl
    · rw [w64 (by omega)]
def sameB (o q : Int) (t l : ByteArray) (o' q' : Int) (t' l' : ByteArray) : Bool := decide (o = o' ∧ q = q' ∧ t = t' ∧ l = l')
theorem esame_f (o q : Int) (t l : ByteArray) (m o' q' : Int) (t' l' : ByteArray) (m' : Int) : event_Same.f o q t l m o' q' t' l' m' = some (sameB o q t l o' q' t' l') := by
  unfold event_Same.f sameB
  congr 1
  rw [Bool.eq_iff_iff]
  simp [toList_inj]
theorem rsame_f (o q : Int) (t l : ByteArray) (m o' q' : Int) (t' l' : ByteArray) (m' : Int) : rivuletref06_Same.f o q t l m o' q' t' l' m' = some (sameB o q t l o' q' t' l') := by
  unfold rivuletref06_Same.f sameB
  by_cases h1 : o = o'
  · by_cases h2 : q = q'
    · by_cases h3 : t.toList = t'.toList
      · rw [if_pos h1, if_pos h2, if_pos h3]
        congr 1
        rw [Bool.eq_iff_iff]
        simp [toList_inj, h1, h2, toList_inj.1 h3]
      · rw [if_pos h1, if_pos h2, if_neg h3, decide_eq_false (fun g => h3 (toList_inj.2 g.2.2.1))]
    · rw [if_pos h1, if_neg h2, decide_eq_false (fun g => h2 g.2.1)]
  · rw [if_neg h1, decide_eq_false (fun g => h1 g.1)]
theorem un_len (l : List MK) : (unM l).length = l.length := List.length_map _
theorem rdM (l : List MK) {i : Nat} (h : i < l.length) : rd_T55 l (i : Int) = l[i]'h := by
  unfold rd_T55
  rw [Int.toNat_natCast, List.getD_eq_getElem?_getD, List.getElem?_eq_getElem h]
  rfl
theorem wi {i : Nat} (h : i ≤ 4611686018427387904) : wrap64 ((i : Int) + 1) = ((i + 1 : Nat) : Int) := by rw [w64 (by omega)]; rfl
theorem sorted_loop (L : List MK) (hl : L.length ≤ 4611686018427387904) : ∀ (d k i : Nat) (last : Int), i + d = L.length → d < k → (i = 0 ∧ last = -1 ∨ ∃ (j : Nat) (h : j < L.length), i = j + 1 ∧ last = (L[j]'h).f0 ∧ 0 ≤ last) →
    rivuletref06_Sorted.l0 k L i = some (srt last ((unM L).drop i) && decide (L.length ≤ 32)) := by
  intro d
  induction d with
  | zero =>
    intro k i last hi hk hlast
    obtain ⟨k, rfl⟩ : ∃ m, k = m + 1 := ⟨k - 1, by omega⟩
    simp only [rivuletref06_Sorted.l0]
    rw [if_neg (by omega), List.drop_of_length_le (by rw [un_len]; omega)]
    simp only [srt, Bool.true_and, Option.some.injEq, decide_eq_decide]
    omega
  | succ d ih =>
    intro k i last hi hk hlast
    obtain ⟨k, rfl⟩ : ∃ m, k = m + 1 := ⟨k - 1, by omega⟩
    have hil : i < L.length := by omega
    simp only [rivuletref06_Sorted.l0]
    have hl1 : -1 ≤ last := by
      rcases hlast with ⟨_, h⟩ | ⟨_, _, _, _, h⟩ <;> omega
    rw [if_pos (by omega), if_pos (by omega), rdM L hil, wi (by omega), in_f, Option.bind_some, List.drop_eq_getElem_cons (by rw [un_len]; exact hil)]
    rw [show (unM L)[i]'(by rw [un_len]; exact hil) = ((L[i]'hil).f0, (L[i]'hil).f1) by simp [unM]]
    simp only [srt]
    have hrest := fun (h : 0 ≤ (L[i]'hil).f0) => ih k (i + 1) (L[i]'hil).f0 (by omega) (by omega) (.inr ⟨i, hil, rfl, rfl, h⟩)
    by_cases a1 : 0 ≤ (L[i]'hil).f0 ∧ (L[i]'hil).f0 ≤ 1099511627776
    · rw [if_pos (decide_eq_true a1), in_f, Option.bind_some]
      by_cases a2 : 1 ≤ (L[i]'hil).f1 ∧ (L[i]'hil).f1 ≤ 1099511627776
      · rw [if_pos (decide_eq_true a2), decide_eq_true a1.2, decide_eq_true a2.1, decide_eq_true a2.2]
        rcases hlast with ⟨rfl, rfl⟩ | ⟨j, hj, rfl, rfl, h0⟩
        · rw [if_neg (by omega), hrest a1.1, decide_eq_true (show (-1 : Int) < (L[0]'hil).f0 by omega)]
          simp
        · rw [if_pos (by omega), show wrap64 (((j + 1 : Nat) : Int) - 1) = (j : Int) by rw [w64 (by omega)]; omega, if_pos (by omega), if_pos (by omega), rdM L hj]
          by_cases g : (L[j]'hj).f0 ≥ (L[j + 1]'hil).f0
          · rw [if_pos g, decide_eq_false (show ¬ (L[j]'hj).f0 < (L[j + 1]'hil).f0 by omega)]
            simp
          · rw [if_neg g, hrest a1.1, decide_eq_true (show (L[j]'hj).f0 < (L[j + 1]'hil).f0 by omega)]
            simp
      · rw [if_neg (by simpa using a2)]
        by_cases a3 : 1 ≤ (L[i]'hil).f1
        · rw [decide_eq_false (show ¬ (L[i]'hil).f1 ≤ 1099511627776 from fun g => a2 ⟨a3, g⟩)]
          simp
        · rw [decide_eq_false a3]
          simp
    · rw [if_neg (by simpa using a1)]
      by_cases a3 : last < (L[i]'hil).f0
      · rw [decide_eq_false (show ¬ (L[i]'hil).f0 ≤ 1099511627776 from fun g => a1 ⟨by omega, g⟩)]
        simp
      · rw [decide_eq_false a3]
        simp
theorem marks_loop (L : List MK) (hl : L.length ≤ 32) (hb : ∀ m ∈ unM L, 0 ≤ m.1 ∧ m.1 ≤ 1099511627776 ∧ 1 ≤ m.2 ∧ m.2 ≤ 1099511627776) : ∀ (d k i : Nat) (acc : List Int), i + d = L.length → d < k → acc.length + d * 18 ≤ 100000 →
    rivuletref06_Marks.l0 k L (strOfNums acc) i = some (strOfNums (acc ++ encM ((unM L).drop i))) := by
  intro d
  induction d with
  | zero =>
    intro k i acc hi hk ha
    obtain ⟨k, rfl⟩ : ∃ m, k = m + 1 := ⟨k - 1, by omega⟩
    simp only [rivuletref06_Marks.l0]
    rw [if_neg (by omega), List.drop_of_length_le (by rw [un_len]; omega)]
    simp [encM]
  | succ d ih =>
    intro k i acc hi hk ha
    obtain ⟨k, rfl⟩ : ∃ m, k = m + 1 := ⟨k - 1, by omega⟩
    have hil : i < L.length := by omega
    have hiu : i < (unM L).length := by rw [un_len]; omega
    have hm := hb _ (List.getElem_mem hiu)
    simp only [rivuletref06_Marks.l0]
    rw [if_pos (by omega), if_pos (by omega), rdM L hil, wi (by omega), List.drop_eq_getElem_cons hiu]
    rw [show (unM L)[i]'hiu = ((L[i]'hil).f0, (L[i]'hil).f1) by simp [unM]] at hm ⊢
    generalize L[i]'hil = m at *
    rw [u64 (by omega), u64 (by omega), rp (by omega) (by omega), Option.bind_some, rp (by omega) (by omega), Option.bind_some]
    have z1 := sz_bd m.f0
    have z2 := sz_bd m.f1
    have y1 := enc_length m.f0
    have y2 := enc_length m.f1
    rw [if_pos (by rw [son_size, son_size]; omega), son_append, son_append, if_pos (by rw [son_size, son_size, List.length_append]; omega), ih k (i + 1) _ (by omega) (by omega) (by simp only [List.length_append]; omega)]
    simp only [encM, List.append_assoc]
theorem readM_len (s : ByteArray) : ∀ (n : Nat) (a bad : Int), (readM s n a bad).1.length = n
  | 0, _, _ => rfl
  | n + 1, a, bad => by
    simp only [readM, List.length_cons]
    rw [readM_len s n]
theorem fixed_true {k : Nat} (hk : 4 ≤ k) : rivuletlaw06_fixed.f k = some true := at_rounds rivuletlaw06_fixed.mono hk (by
  unfold rivuletlaw06_fixed.f
  simp only [EF.f12, VF.toList_eq]
  decide +kernel)
theorem cut_f (o q : Int) (t l : ByteArray) (m : Int) : ∃ t' l' : ByteArray, t'.size ≤ 200 ∧ l'.size ≤ 200 ∧ rivuletlaw06_cut.f o q t l m = some (o, q, t', l', m) := by
  have h1 : 0 ≤ mn (t.size : Int) 200 ∧ mn (t.size : Int) 200 ≤ t.size ∧ mn (t.size : Int) 200 ≤ 200 := by unfold mn; split <;> omega
  have h2 : 0 ≤ mn (l.size : Int) 200 ∧ mn (l.size : Int) 200 ≤ l.size ∧ mn (l.size : Int) 200 ≤ 200 := by unfold mn; split <;> omega
  refine ⟨t.extract 0 ((mn (t.size : Int) 200) : Int).toNat, l.extract 0 ((mn (l.size : Int) 200) : Int).toNat, by rw [ByteArray.size_extract]; omega, by rw [ByteArray.size_extract]; omega, ?_⟩
  unfold rivuletlaw06_cut.f
  rw [if_pos h1.1, if_pos h1.2.1, if_pos h2.1, if_pos h2.2.1]
theorem er (o q : Int) (t l : ByteArray) (m : Int) (h : t.size ≤ 900000) : event_Right.f o q t l m = some (rightE o q t l m) := if_pos h
end Go.Proofs.YtdoaomoocikmaaaDoor.ER
