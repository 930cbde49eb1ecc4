import Derived.Test.YtdoaomoocikmaaaDoorKSame31
import Derived.Test.YtdoaomoocikmaaaDoorKSame37
import Derived.Test.YtdoaomoocikmaaaDoorKSame33
import Derived.Test.YtdoaomoocikmaaaDoorKSame35
import Derived.Test.YtdoaomoocikmaaaDoorKSame40
import Derived.Test.YtdoaomoocikmaaaDoorKSame41
import Derived.Test.YtdoaomoocikmaaaDoorKSame38
namespace Go.Proofs.YtdoaomoocikmaaaDoor.ER
open Go Go.RowKit Go.Proofs.YtdoaomoocikmaaaDoor Go.Proofs.YtdoaomoocikmaaaDoor.VP Go.Proofs.YtdoaomoocikmaaaDoor.VF Go.Proofs.YtdoaomoocikmaaaDoor.TP Go.Proofs.YtdoaomoocikmaaaDoor.EB Go.Proofs.YtdoaomoocikmaaaDoor.EW Go.Proofs.YtdoaomoocikmaaaDoor.Pr Go.Proofs.YtdoaomoocikmaaaDoorW.PrintWords
abbrev MK := S55
theorem in_f (a b c : Int) : rivuletref06_in.f a b c = some (decide (b ≤ a ∧ a ≤ c)) := by
  unfold rivuletref06_in.f
  by_cases h : a ≥ b
  · rw [if_pos h]
    congr 1
    rw [decide_eq_decide]
    omega
  · rw [if_neg h, decide_eq_false (by omega)]
theorem rright_f (o s : Int) (t l : ByteArray) (m : Int) (ht : t.size ≤ 900000) : rivuletref06_Right.f o s t l m = some (rightE o s t l m) := by
  unfold rivuletref06_Right.f rightE
  rw [in_f, Option.bind_some]
  cases h1 : decide (0 ≤ o ∧ o ≤ 1099511627776) with
  | false => rw [if_neg (by decide)]; rfl
  | true =>
    rw [if_pos rfl, in_f, Option.bind_some]
    cases h2 : decide (1 ≤ s ∧ s ≤ 1099511627776) with
    | false => rw [if_neg (by decide)]; rfl
    | true =>
      rw [if_pos rfl, show rivuletref03_Right.f t = some (rightB t) from if_pos ht, Option.bind_some]
      cases h4 : rightB t with
      | false => rw [if_neg (by decide)]; simp
      | true =>
        rw [if_pos rfl]
        by_cases h5 : (l.size : Int) ≤ 64
        · rw [if_pos h5, in_f, Option.bind_some, decide_eq_true (show l.size ≤ 64 by omega)]
          simp
        · rw [if_neg h5, decide_eq_false (show ¬ l.size ≤ 64 by omega)]
          simp
theorem rp {n : Int} (h0 : 0 ≤ n) (h1 : n ≤ 18446744073709551615) : rivuletref01_Put.f n = some (strOfNums (enc n)) := if_pos ⟨h0, h1⟩
theorem rt {s : ByteArray} (h : s.size ≤ 140737488351232) : rivuletref01_Text.f s = some (strOfNums (enc s.size) ++ s) := if_pos h
theorem right_bd {o q : Int} {t l : ByteArray} {m : Int} (h : rightE o q t l m = true) : (0 ≤ o ∧ o ≤ 1099511627776) ∧ (1 ≤ q ∧ q ≤ 1099511627776) ∧ (0 ≤ m ∧ m ≤ 1000) ∧ rightB t = true ∧ l.size ≤ 64 := by
  unfold rightE at h
  simp only [Bool.and_eq_true, decide_eq_true_eq] at h
  exact ⟨h.1, h.2.1, h.2.2.1, h.2.2.2.1, h.2.2.2.2⟩
theorem rput_f (o q : Int) (t l : ByteArray) (m : Int) (ht : t.size ≤ 900000) (hl : l.size ≤ 900000) : rivuletref06_Put.f o q t l m = some (putB o q t l m) := by
  unfold rivuletref06_Put.f putB
  rw [rright_f o q t l m ht, Option.bind_some]
  cases hq : rightE o q t l m with
  | false => rw [if_neg (by decide), if_neg (by decide)]
  | true =>
    obtain ⟨⟨o0, o1⟩, ⟨q0, q1⟩, ⟨m0, m1⟩, _, l1⟩ := right_bd hq
    have z1 := enc_size o
    have z2 := enc_size q
    have z3 := enc_size m
    have z4 : (strOfNums (enc t.size) ++ t).size ≤ 900009 := by rw [ByteArray.size_append]; have := enc_size t.size; omega
    have z5 : (strOfNums (enc l.size) ++ l).size ≤ 900009 := by rw [ByteArray.size_append]; have := enc_size l.size; omega
    rw [if_pos rfl, if_pos rfl, u64 (by omega), u64 (by omega), u64 (by omega), rp (by omega) (by omega), Option.bind_some, rp (by omega) (by omega), Option.bind_some, if_pos (by omega), rp (by omega) (by omega), Option.bind_some,
      if_pos (by rw [ByteArray.size_append]; omega), rt (by omega), Option.bind_some, if_pos (by rw [ByteArray.size_append, ByteArray.size_append]; omega), rt (by omega), Option.bind_some,
      if_pos (by rw [ByteArray.size_append, ByteArray.size_append, ByteArray.size_append]; omega), put_parts]
def ageT (m n : Int) : Int := if n ≤ 0 then m else if m ≤ n then 0 else m - n
theorem age_f (o q : Int) (t l : ByteArray) {m n : Int} (hm : -9223372036854775808 ≤ m ∧ m ≤ 9223372036854775807) : event_Age.f o q t l m n = some (o, q, t, l, ageT m n) := by
  unfold event_Age.f ageT mx mn
  by_cases h : n > 0
  · rw [if_pos h, if_neg (show ¬ n ≤ 0 by omega)]
    congr 5
    split <;> split <;> (try split) <;> (try rw [w64 (by omega)]) <;> omega
  · rw [if_neg h, if_pos (show n ≤ 0 by omega)]
def sameB (o q : Int) (t l : ByteArray) (o' q' : Int) (t' l' : ByteArray) : Bool := decide (o = o' ∧ q = q' ∧ t = t' ∧ l = l')
theorem esame_f (o q : Int) (t l : ByteArray) (m o' q' : Int) (t' l' : ByteArray) (m' : Int) : event_Same.f o q t l m o' q' t' l' m' = some (sameB o q t l o' q' t' l') := by
  unfold event_Same.f sameB
  congr 1
  rw [Bool.eq_iff_iff]
  simp [toList_inj]
theorem un_len (l : List MK) : (unM l).length = l.length := List.length_map _
theorem rdM (l : List MK) {i : Nat} (h : i < l.length) : rd_T55 l (i : Int) = l[i]'h := by
  unfold rd_T55
  rw [Int.toNat_natCast, List.getD_eq_getElem?_getD, List.getElem?_eq_getElem h]
  rfl
theorem wi {i : Nat} (h : i ≤ 4611686018427387904) : wrap64 ((i : Int) + 1) = ((i + 1 : Nat) : Int) := by rw [w64 (by omega)]; rfl
theorem sorted_loop (L : List MK) (hl : L.length ≤ 4611686018427387904) : ∀ (d k i : Nat) (last : Int), i + d = L.length → d < k → (i = 0 ∧ last = -1 ∨ ∃ (j : Nat) (h : j < L.length), i = j + 1 ∧ last = (L[j]'h).f0 ∧ 0 ≤ last) →
    rivuletref06_Sorted.l0 k L i = some (srt last ((unM L).drop i) && decide (L.length ≤ 32)) := by
  intro d
  induction d with
  | zero =>
    intro k i last hi hk hlast
    obtain ⟨k, rfl⟩ : ∃ m, k = m + 1 := ⟨k - 1, by omega⟩
    simp only [rivuletref06_Sorted.l0]
    rw [if_neg (by omega), List.drop_of_length_le (by rw [un_len]; omega)]
    simp only [srt, Bool.true_and, Option.some.injEq, decide_eq_decide]
    omega
  | succ d ih =>
    intro k i last hi hk hlast
    obtain ⟨k, rfl⟩ : ∃ m, k = m + 1 := ⟨k - 1, by omega⟩
    have hil : i < L.length := by omega
    simp only [rivuletref06_Sorted.l0]
    have hl1 : -1 ≤ last := by
      rcases hlast with ⟨_, h⟩ | ⟨_, _, _, _, h⟩ <;> omega
    rw [if_pos (by omega), if_pos (by omega), rdM L hil, wi (by omega), in_f, Option.bind_some, List.drop_eq_getElem_cons (by rw [un_len]; exact hil)]
    rw [show (unM L)[i]'(by rw [un_len]; exact hil) = ((L[i]'hil).f0, (L[i]'hil).f1) by simp [unM]]
    simp only [srt]
    have hrest := fun (h : 0 ≤ (L[i]'hil).f0) => ih k (i + 1) (L[i]'hil).f0 (by omega) (by omega) (.inr ⟨i, hil, rfl, rfl, h⟩)
    by_cases a1 : 0 ≤ (L[i]'hil).f0 ∧ (L[i]'hil).f0 ≤ 1099511627776
    · rw [if_pos (decide_eq_true a1), in_f, Option.bind_some]
      by_cases a2 : 1 ≤ (L[i]'hil).f1 ∧ (L[i]'hil).f1 ≤ 1099511627776
      · rw [if_pos (decide_eq_true a2), decide_eq_true a1.2, decide_eq_true a2.1, decide_eq_true a2.2]
        rcases hlast with ⟨rfl, rfl⟩ | ⟨j, hj, rfl, rfl, h0⟩
        · rw [if_neg (by omega), hrest a1.1, decide_eq_true (show (-1 : Int) < (L[0]'hil).f0 by omega)]
          simp
        · rw [if_pos (by omega), show wrap64 (((j + 1 : Nat) : Int) - 1) = (j : Int) by rw [w64 (by omega)]; omega, if_pos (by omega), if_pos (by omega), rdM L hj]
          by_cases g : (L[j]'hj).f0 ≥ (L[j + 1]'hil).f0
          · rw [if_pos g, decide_eq_false (show ¬ (L[j]'hj).f0 < (L[j + 1]'hil).f0 by omega)]
            simp
          · rw [if_neg g, hrest a1.1, decide_eq_true (show (L[j]'hj).f0 < (L[j + 1]'hil).f0 by omega)]
            simp
      · rw [if_neg (by simpa using a2)]
        by_cases a3 : 1 ≤ (L[i]'hil).f1
        · rw [decide_eq_false (show ¬ (L[i]'hil).f1 ≤ 1099511627776 from fun g => a2 ⟨a3, g⟩)]
          simp
        · rw [decide_eq_false a3]
          simp
    · rw [if_neg (by simpa using a1)]
      by_cases a3 : last < (L[i]'hil).f0
      · rw [decide_eq_false (show ¬ (L[i]'hil).f0 ≤ 1099511627776 from fun g => a1 ⟨by omega, g⟩)]
        simp
      · rw [decide_eq_false a3]
        simp
theorem marks_loop (L : List MK) (hl : L.length ≤ 32) (hb : ∀ m ∈ unM L, 0 ≤ m.1 ∧ m.1 ≤ 1099511627776 ∧ 1 ≤ m.2 ∧ m.2 ≤ 1099511627776) : ∀ (d k i : Nat) (acc : List Int), i + d = L.length → d < k → acc.length + d * 18 ≤ 100000 →
    rivuletref06_Marks.l0 k L (strOfNums acc) i = some (strOfNums (acc ++ encM ((unM L).drop i))) := by
  intro d
  induction d with
  | zero =>
    intro k i acc hi hk ha
    obtain ⟨k, rfl⟩ : ∃ m, k = m + 1 := ⟨k - 1, by omega⟩
    simp only [rivuletref06_Marks.l0]
    rw [if_neg (by omega), List.drop_of_length_le (by rw [un_len]; omega)]
    simp [encM]
  | succ d ih =>
    intro k i acc hi hk ha
    obtain ⟨k, rfl⟩ : ∃ m, k = m + 1 := ⟨k - 1, by omega⟩
    have hil : i < L.length := by omega
    have hiu : i < (unM L).length := by rw [un_len]; omega
    have hm := hb _ (List.getElem_mem hiu)
    simp only [rivuletref06_Marks.l0]
    rw [if_pos (by omega), if_pos (by omega), rdM L hil, wi (by omega), List.drop_eq_getElem_cons hiu]
    rw [show (unM L)[i]'hiu = ((L[i]'hil).f0, (L[i]'hil).f1) by simp [unM]] at hm ⊢
    generalize L[i]'hil = m at *
    rw [u64 (by omega), u64 (by omega), rp (by omega) (by omega), Option.bind_some, rp (by omega) (by omega), Option.bind_some]
    have z1 := sz_bd m.f0
    have z2 := sz_bd m.f1
    have y1 := enc_length m.f0
    have y2 := enc_length m.f1
    rw [if_pos (by rw [son_size, son_size]; omega), son_append, son_append, if_pos (by rw [son_size, son_size, List.length_append]; omega), ih k (i + 1) _ (by omega) (by omega) (by simp only [List.length_append]; omega)]
    simp only [encM, List.append_assoc]
theorem readM_len (s : ByteArray) : ∀ (n : Nat) (a bad : Int), (readM s n a bad).1.length = n
  | 0, _, _ => rfl
  | n + 1, a, bad => by
    simp only [readM, List.length_cons]
    rw [readM_len s n]
theorem fixed_true {k : Nat} (hk : 4 ≤ k) : rivuletlaw06_fixed.f k = some true := at_rounds rivuletlaw06_fixed.mono hk (by
  unfold rivuletlaw06_fixed.f
  simp only [EF.f12, VF.toList_eq]
  decide +kernel)
theorem wf_u16 {n : Int} (h : (Lit.int .u16 n).wf = true) : 0 ≤ n ∧ n ≤ 65535 := by
  simp [Lit.wf, IntKind.min, IntKind.max, IntKind.bits, IntKind.signed] at h
  omega
theorem cut_f (o q : Int) (t l : ByteArray) (m : Int) : ∃ t' l' : ByteArray, t'.size ≤ 200 ∧ l'.size ≤ 200 ∧ rivuletlaw06_cut.f o q t l m = some (o, q, t', l', m) := by
  have h1 : 0 ≤ mn (t.size : Int) 200 ∧ mn (t.size : Int) 200 ≤ t.size ∧ mn (t.size : Int) 200 ≤ 200 := by unfold mn; split <;> omega
  have h2 : 0 ≤ mn (l.size : Int) 200 ∧ mn (l.size : Int) 200 ≤ l.size ∧ mn (l.size : Int) 200 ≤ 200 := by unfold mn; split <;> omega
  refine ⟨t.extract 0 ((mn (t.size : Int) 200) : Int).toNat, l.extract 0 ((mn (l.size : Int) 200) : Int).toNat, by rw [ByteArray.size_extract]; omega, by rw [ByteArray.size_extract]; omega, ?_⟩
  unfold rivuletlaw06_cut.f
  rw [if_pos h1.1, if_pos h1.2.1, if_pos h2.1, if_pos h2.2.1]
theorem er (o q : Int) (t l : ByteArray) (m : Int) (h : t.size ≤ 900000) : event_Right.f o q t l m = some (rightE o q t l m) := if_pos h
end Go.Proofs.YtdoaomoocikmaaaDoor.ER
