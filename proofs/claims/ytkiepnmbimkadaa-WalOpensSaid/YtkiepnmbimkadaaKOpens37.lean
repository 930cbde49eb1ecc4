import Derived.Test.YtkiepnmbimkadaaKOpens31
import Derived.Test.YtkiepnmbimkadaaKOpens32
import Derived.Test.YtkiepnmbimkadaaKOpens33
import Derived.Test.YtkiepnmbimkadaaKOpens34
import Derived.Test.YtkiepnmbimkadaaKOpens35
import Derived.Test.YtkiepnmbimkadaaKOpens22
import Derived.Test.YtkiepnmbimkadaaKOpens36
namespace Go.Proofs.Ytkiepnmbimkadaa.WF
open Go.RowKit Go.Proofs.Ytkiepnmbimkadaa Go.Proofs.Ytkiepnmbimkadaa.Pr Go.Proofs.Ytkiepnmbimkadaa.VP Go.Proofs.Ytkiepnmbimkadaa.VF Go.Proofs.Ytkiepnmbimkadaa.CP Go.Proofs.Ytkiepnmbimkadaa.CF Go.Proofs.YtkiepnmbimkadaaW.PrintWords Go.Proofs.YtkiepnmbimkadaaW.PrintLast Go.Proofs.YtkiepnmbimkadaaW.PrintMore
def rowB (round : Int) (s : ByteArray) : ByteArray := strOfNums (sealB (strOfNums (enc round) ++ s))
theorem pre_size (round : Int) (s : ByteArray) : (strOfNums (enc round) ++ s).size = sz round + s.size := by rw [ByteArray.size_append, strOfNums_size, enc_length]
theorem rowB_size (round : Int) (s : ByteArray) : s.size < (rowB round s).size ∧ (rowB round s).size ≤ s.size + 22 := by
  have h1 := sz_bd round
  unfold rowB
  rw [strOfNums_size, seal_length, pre_size]
  have h2 := sz_bd ((sz round + s.size : Nat) : Int)
  omega
theorem row_f {round : Int} (h0 : 0 ≤ round) (h1 : round ≤ 9223372036854775807) {s : ByteArray} (hs : s.size ≤ 140737488350000) {k : Nat} (hk : 10 ≤ k) : wal_row.f k round s = some (rowB round s) := by
  have h2 := sz_bd round
  have h3 := pre_size round s
  unfold wal_row.f
  rw [u64 (by omega), put_enc h0 (by omega) hk, Option.bind_some, if_pos (by rw [strOfNums_size, enc_length]; omega), seal_f (by omega) hk]
  rfl
theorem rrow_f {round : Int} (h0 : 0 ≤ round) (h1 : round ≤ 9223372036854775807) {s : ByteArray} (hs : s.size ≤ 140737488350000) {k : Nat} (hk : s.size + 50 ≤ k) : rivuletref10_Row.f k round s = some (rowB round s) := by
  have h2 := sz_bd round
  have h3 := pre_size round s
  unfold rivuletref10_Row.f
  rw [u64 (by omega), rput_enc h0 (by omega) (by omega), Option.bind_some, if_pos (by rw [strOfNums_size, enc_length]; omega), rseal_f (by omega) (by omega)]
  rfl
def partS (x : ByteArray) : Int × ByteArray × Int :=
  if (getS x 0).2.2 = 0 then (if (getS x 0).1 > 1099511627776 then (0, ⟨#[]⟩, 4) else ((getS x 0).1, x.extract (getS x 0).2.1.toNat x.size, 0)) else (0, ⟨#[]⟩, (getS x 0).2.2)
theorem part_f {x : ByteArray} (hx : x.size ≤ 140737488351232) {k : Nat} (hk : 12 ≤ k) : wal_parted.f k x = some (partS x) := by
  unfold wal_parted.f partS
  rw [get_getS hx 0 hk, Option.bind_some]
  rcases getS_cases x 0 with ⟨h, _, _⟩ | ⟨n, p, hp, e, h1, h2, h3, h4⟩
  · rw [if_neg h, if_neg h]
  · rw [e]
    simp only [if_true]
    by_cases b : n > 1099511627776
    · rw [if_pos b, if_pos b]
    · rw [if_neg b, if_neg b, if_pos (by omega), if_pos (by omega), w64 (by omega)]
def headS (s : ByteArray) : Int × ByteArray × Int :=
  if s = ⟨#[]⟩ then (0, ⟨#[]⟩, 0) else if (openS s 0).2.2 = 0 then (if (openS s 0).2.1 = (s.size : Int) then partS (openS s 0).1 else (0, ⟨#[]⟩, 4)) else (0, ⟨#[]⟩, (openS s 0).2.2)
theorem empty_iff (s : ByteArray) : s.toList = ([] : List UInt8) ↔ s = ⟨#[]⟩ := by
  rw [toList_eq]
  constructor
  · intro h
    apply ByteArray.ext
    apply Array.ext'
    exact h
  · rintro rfl
    rfl
theorem open_size (s : ByteArray) (a : Int) : (openS s a).1.size ≤ 65536 ∧ (openS s a).1.size ≤ s.size := by
  rcases openS_cases s a with ⟨x, _, e⟩ | ⟨p, x, _, h1, h2, _, e⟩
  · rw [e]
    exact ⟨Nat.zero_le _, Nat.zero_le _⟩
  · have := seal_length x
    rw [e]
    exact ⟨h1, by show x.size ≤ _; omega⟩
theorem head_f {s : ByteArray} (hs : s.size ≤ 140737488351232) {k : Nat} (hk : 20 ≤ k) : wal_head.f k s = some (headS s) := by
  have ho := open_size s 0
  unfold wal_head.f headS
  by_cases h : s = ⟨#[]⟩
  · rw [if_pos ((empty_iff s).2 h), if_pos h]
  · rw [if_neg (fun g => h ((empty_iff s).1 g)), if_neg h, open_f hs _ hk, Option.bind_some]
    by_cases h2 : (openS s 0).2.2 = 0
    · rw [if_pos h2, if_pos h2]
      by_cases h3 : (openS s 0).2.1 = (s.size : Int)
      · rw [if_pos h3, if_pos h3, part_f (by omega) (by omega), Option.bind_some]
      · rw [if_neg h3, if_neg h3]
    · rw [if_neg h2, if_neg h2]
theorem rhead_f {s : ByteArray} (hs : s.size ≤ 140737488351232) {k : Nat} (hk : s.size + 70 ≤ k) : rivuletref10_Head.f k s = some (headS s) := by
  have ho := open_size s 0
  unfold rivuletref10_Head.f headS
  by_cases h : s = ⟨#[]⟩
  · rw [if_pos ((empty_iff s).2 h), if_pos h]
  · rw [if_neg (fun g => h ((empty_iff s).1 g)), if_neg h, ropen_f hs _ hk, Option.bind_some]
    by_cases h2 : (openS s 0).2.2 = 0
    · rw [if_pos h2, if_pos h2]
      have hle : (openS s 0).2.1 ≤ (s.size : Int) := by
        rcases openS_cases s 0 with ⟨x, hx, e⟩ | ⟨p, x, hp, h1, h3, _, e⟩
        · rw [e] at h2
          exact absurd h2 hx
        · rw [e]
          show ((p + (sealB x).length : Nat) : Int) ≤ _
          omega
      by_cases h3 : (openS s 0).2.1 = (s.size : Int)
      · rw [if_neg (by omega), if_pos h3, rget_getS (by omega) _ (by omega), Option.bind_some]
        unfold partS
        rcases getS_cases (openS s 0).1 0 with ⟨h, _, _⟩ | ⟨n, p, hp, e, h1, h2, h3, h4⟩
        · rw [if_neg h, if_neg h]
        · rw [e]
          simp only [if_true]
          by_cases b : n > 1099511627776
          · rw [if_pos b, if_pos b]
          · rw [if_neg b, if_neg b, if_pos (by omega), if_pos (by omega), w64 (by omega)]
      · rw [if_pos (by omega), if_neg h3]
    · rw [if_neg h2, if_neg h2]
theorem headS_round (s : ByteArray) : 0 ≤ (headS s).1 ∧ (headS s).1 ≤ 1099511627776 ∧ (headS s).2.1.size ≤ 65536 := by
  unfold headS
  split
  · exact ⟨Int.le_refl _, (show (0 : Int) ≤ 1099511627776 by decide), Nat.zero_le _⟩
  split
  · split
    · have ho := (open_size s 0).1
      unfold partS
      rcases getS_cases (openS s 0).1 0 with ⟨h, _, _⟩ | ⟨n, p, hp, e, h1, h2, h3, h4⟩
      · rw [if_neg h]
        exact ⟨Int.le_refl _, (show (0 : Int) ≤ 1099511627776 by decide), Nat.zero_le _⟩
      · rw [e]
        simp only [if_true]
        split
        · exact ⟨Int.le_refl _, (show (0 : Int) ≤ 1099511627776 by decide), Nat.zero_le _⟩
        · refine ⟨h3, by show n ≤ _; omega, ?_⟩
          show (ByteArray.extract _ _ _).size ≤ _
          rw [ByteArray.size_extract]
          omega
    · exact ⟨Int.le_refl _, (show (0 : Int) ≤ 1099511627776 by decide), Nat.zero_le _⟩
  · exact ⟨Int.le_refl _, (show (0 : Int) ≤ 1099511627776 by decide), Nat.zero_le _⟩
def allS (s : ByteArray) : List ByteArray × Int := (check_All.f (2 * s.size + 100) s).getD ([], 0)
theorem all_f {s : ByteArray} (hs : s.size ≤ 1000000000000) : check_All.f (2 * s.size + 100) s = some (allS s) ∧ rivuletref02_All.f (2 * s.size + 100) s = some (allS s) := by
  obtain ⟨r, h1, h2⟩ := all_both (s := s) (by omega) s.size (2 * s.size + 100) 0 [] (by omega) (by omega) (by simp; omega)
  have e : check_All.f (2 * s.size + 100) s = some r := h1
  unfold allS
  rw [e]
  exact ⟨rfl, h2⟩
theorem all_len {s : ByteArray} (hs : s.size ≤ 1000000000000) : ∀ (k p : Nat) (acc : List ByteArray) (r : List ByteArray × Int), check_All.l0 k s acc p = some r → (∀ x ∈ acc, x.size ≤ 65536) → acc.length ≤ p → p ≤ s.size → r.1.length ≤ s.size ∧ ∀ x ∈ r.1, x.size ≤ 65536 := by
  intro k
  induction k with
  | zero => intro p acc r h; simp [check_All.l0] at h
  | succ k ih =>
    intro p acc r h ha hp hps
    simp only [check_All.l0] at h
    by_cases g : (p : Int) < s.size
    · rw [if_pos g] at h
      obtain ⟨y, hy, h⟩ := Option.bind_eq_some_iff.1 h
      by_cases hk : 20 ≤ k
      · rw [open_f (by omega) _ hk] at hy
        injection hy with hy
        subst hy
        rcases openS_cases s p with ⟨x, hx, e⟩ | ⟨q, x, hq, h1, h2, h3, e⟩
        · rw [e] at h
          simp only [] at h
          rw [if_neg hx] at h
          injection h with h
          subst h
          exact ⟨by show acc.length ≤ _; omega, ha⟩
        · obtain rfl : p = q := by omega
          have hl := seal_length x
          rw [e] at h
          simp only [if_true] at h
          split at h
          · exact ih _ _ _ h (fun z hz => by
              rcases List.mem_append.1 hz with hz | hz
              · exact ha z hz
              · simp at hz; subst hz; exact h1) (by simp; omega) h2
          · cases h
      · have hm := check_Open.mono s p
        have : ∀ d, check_Open.f (k + d) s p = some y := by
          intro d
          induction d with
          | zero => exact hy
          | succ d ihd => exact hm (k + d) y ihd
        have hy2 := this 20
        rw [open_f (by omega) _ (by omega)] at hy2
        injection hy2 with hy2
        subst hy2
        rcases openS_cases s p with ⟨x, hx, e⟩ | ⟨q, x, hq, h1, h2, h3, e⟩
        · rw [e] at h
          simp only [] at h
          rw [if_neg hx] at h
          injection h with h
          subst h
          exact ⟨by show acc.length ≤ _; omega, ha⟩
        · obtain rfl : p = q := by omega
          have hl := seal_length x
          rw [e] at h
          simp only [if_true] at h
          split at h
          · exact ih _ _ _ h (fun z hz => by
              rcases List.mem_append.1 hz with hz | hz
              · exact ha z hz
              · simp at hz; subst hz; exact h1) (by simp; omega) h2
          · cases h
    · rw [if_neg g] at h
      injection h with h
      subst h
      exact ⟨by show acc.length ≤ _; omega, ha⟩
theorem allS_bd {s : ByteArray} (hs : s.size ≤ 1000000000000) : (allS s).1.length ≤ s.size ∧ ∀ x ∈ (allS s).1, x.size ≤ 65536 :=
  all_len hs _ 0 [] _ (all_f hs).1 (fun x hx => by simp at hx) (Nat.le_refl _) (Nat.zero_le _)
def recsS (round : Int) : List ByteArray → List ByteArray
  | [] => []
  | x :: l => if (getS x 0).2.2 = 0 then (if (getS x 0).1 = round then x.extract (getS x 0).2.1.toNat x.size :: recsS round l else recsS round l) else []
theorem recsS_bd (round : Int) {b : Nat} : ∀ l : List ByteArray, (∀ x ∈ l, x.size ≤ b) → (recsS round l).length ≤ l.length ∧ ∀ x ∈ recsS round l, x.size ≤ b
  | [], _ => ⟨Nat.le_refl _, fun x hx => by simp [recsS] at hx⟩
  | x :: l, h => by
    have ih := recsS_bd round l (fun y hy => h y (by simp [hy]))
    have hx := h x (by simp)
    unfold recsS
    split
    · split
      · refine ⟨Nat.succ_le_succ ih.1, fun y hy => ?_⟩
        rcases List.mem_cons.1 hy with rfl | hy
        · rw [ByteArray.size_extract]; omega
        · exact ih.2 y hy
      · exact ⟨Nat.le_succ_of_le ih.1, ih.2⟩
    · exact ⟨Nat.zero_le _, fun y hy => by simp at hy⟩
theorem recs_loop {round : Int} (h0 : 0 ≤ round) (h1 : round ≤ 9223372036854775807) (l : List ByteArray) (hl : ∀ x ∈ l, x.size ≤ 140737488351232) (hn : l.length ≤ 1000000000000) : ∀ (d k i : Nat) (acc : List ByteArray), i + d = l.length → d + 70 ≤ k → acc.length ≤ i →
    rivuletref10_Records.l0 k round acc l i = some (acc ++ recsS round (l.drop i)) := by
  intro d
  induction d with
  | zero =>
    intro k i acc hi hk ha
    obtain ⟨k, rfl⟩ : ∃ m, k = m + 1 := ⟨k - 1, by omega⟩
    simp only [rivuletref10_Records.l0]
    rw [if_neg (by omega), List.drop_of_length_le (by omega)]
    simp [recsS]
  | succ d ih =>
    intro k i acc hi hk ha
    obtain ⟨k, rfl⟩ : ∃ m, k = m + 1 := ⟨k - 1, by omega⟩
    have el : rdOf ByteArray.empty l (i : Int) = l[i]'(by omega) := by unfold rdOf; rw [Int.toNat_natCast, List.getD_eq_getElem?_getD, List.getElem?_eq_getElem (by omega)]; rfl
    have hz := hl _ (List.getElem_mem (show i < l.length by omega))
    simp only [rivuletref10_Records.l0]
    rw [if_pos (by omega), if_pos (by omega), el, List.drop_eq_getElem_cons (show i < l.length by omega)]
    generalize l[i]'(by omega) = x at *
    rw [rget_getS hz 0 (by omega), Option.bind_some]
    have eu : IntKind.u64.wrap round = round := u64 (by omega)
    have ei : wrap64 ((i : Int) + 1) = ((i + 1 : Nat) : Int) := by rw [w64 (by omega)]; omega
    rw [eu, ei]
    rcases getS_cases x 0 with ⟨h, _, _⟩ | ⟨n, p, hp, e, h2, h3, h4, h5⟩
    · rw [if_neg h]
      unfold recsS
      rw [if_neg h, List.append_nil]
    · rw [recsS, e]
      simp only [if_true]
      by_cases b : n = round
      · rw [if_pos b, if_pos b, if_pos (by omega), if_pos (by omega), if_pos (by omega), ih k (i + 1) _ (by omega) (by omega) (by simp; omega)]
        simp
      · rw [if_neg b, if_neg b, ih k (i + 1) _ (by omega) (by omega) (by omega)]
theorem recs_f {round : Int} (h0 : 0 ≤ round) (h1 : round ≤ 9223372036854775807) {s : ByteArray} (hs : s.size ≤ 1000000) {k : Nat} (hk : k = 2 * s.size + 100) : rivuletref10_Records.f k s round = some (recsS round (allS s).1) := by
  subst hk
  have hb := allS_bd (s := s) (by omega)
  unfold rivuletref10_Records.f
  rw [(all_f (by omega)).2, Option.bind_some]
  have := recs_loop h0 h1 (allS s).1 (fun x hx => by have := hb.2 x hx; omega) (by omega) (allS s).1.length (2 * s.size + 100) 0 [] (by omega) (by omega) (Nat.le_refl _)
  rw [List.nil_append, List.drop_zero] at this
  exact this
def textS (round : Int) : List ByteArray → ByteArray
  | [] => ⟨#[]⟩
  | x :: l => rowB round x ++ textS round l
theorem textS_append (round : Int) : ∀ l m, textS round (l ++ m) = textS round l ++ textS round m
  | [], m => by
    show textS round m = ⟨#[]⟩ ++ textS round m
    apply ByteArray.ext
    simp
  | x :: l, m => by
    show rowB round x ++ textS round (l ++ m) = rowB round x ++ textS round l ++ textS round m
    rw [textS_append round l m, ByteArray.append_assoc]
theorem textS_snoc (round : Int) (l : List ByteArray) (x : ByteArray) : textS round (l ++ [x]) = textS round l ++ rowB round x := by
  rw [textS_append]
  congr 1
  show rowB round x ++ ⟨#[]⟩ = _
  apply ByteArray.ext
  simp
theorem textS_size (round : Int) {b : Nat} : ∀ l : List ByteArray, (∀ x ∈ l, x.size ≤ b) → (textS round l).size ≤ l.length * (b + 22)
  | [], _ => Nat.zero_le _
  | x :: l, h => by
    have ih := textS_size round l (fun y hy => h y (by simp [hy]))
    have hx := h x (by simp)
    have hr := (rowB_size round x).2
    show (rowB round x ++ textS round l).size ≤ _
    rw [ByteArray.size_append, List.length_cons, Nat.succ_mul]
    omega
theorem text_loop {round : Int} (h0 : 0 ≤ round) (h1 : round ≤ 9223372036854775807) (l : List ByteArray) {b : Nat} (hb : b ≤ 1000000) (hl : ∀ x ∈ l, x.size ≤ b) (hn : l.length ≤ 1000000) : ∀ (d k i : Nat), i + d = l.length → d + b + 60 ≤ k →
    rivuletref10_Text.l0 k round l (textS round (l.take i)) i = some (textS round l) := by
  intro d
  induction d with
  | zero =>
    intro k i hi hk
    obtain ⟨k, rfl⟩ : ∃ m, k = m + 1 := ⟨k - 1, by omega⟩
    simp only [rivuletref10_Text.l0]
    rw [if_neg (by omega), List.take_of_length_le (by omega)]
  | succ d ih =>
    intro k i hi hk
    obtain ⟨k, rfl⟩ : ∃ m, k = m + 1 := ⟨k - 1, by omega⟩
    have el : rdOf ByteArray.empty l (i : Int) = l[i]'(by omega) := by unfold rdOf; rw [Int.toNat_natCast, List.getD_eq_getElem?_getD, List.getElem?_eq_getElem (by omega)]; rfl
    have hts := textS_size round (l.take i) (b := b) (fun x hx => hl x (List.mem_of_mem_take hx))
    have htk : l.take (i + 1) = l.take i ++ [l[i]'(by omega)] := List.take_succ_eq_append_getElem (by omega)
    have hz := hl _ (List.getElem_mem (show i < l.length by omega))
    have ei : wrap64 ((i : Int) + 1) = ((i + 1 : Nat) : Int) := by rw [w64 (by omega)]; omega
    have htl : (l.take i).length ≤ 1000000 := by rw [List.length_take]; omega
    have ih2 := ih k (i + 1) (by omega) (by omega)
    rw [htk] at ih2
    have hk2 : d + 1 + b + 60 ≤ k + 1 := hk
    have c1 : (i : Int) < (l.length : Int) := by omega
    have c2 : (0 : Int) ≤ (i : Int) := by omega
    generalize l[i]'(by omega) = x at *
    generalize l.take i = m at *
    have hr := (rowB_size round x).2
    have hm : m.length * (b + 22) ≤ 1000000 * 1000022 := Nat.mul_le_mul htl (by omega)
    have hx1 : x.size ≤ 1000000 := Nat.le_trans hz hb
    have hsz : (textS round m).size + (rowB round x).size ≤ 9223372036854775807 := by
      refine Nat.le_trans (Nat.add_le_add (Nat.le_trans hts hm) (Nat.le_trans hr (Nat.add_le_add_right hx1 22))) ?_
      decide
    have hk3 : x.size + 50 ≤ k := by clear hsz hm hr hts hi; omega
    simp only [rivuletref10_Text.l0]
    rw [if_pos c1, if_pos c2, el, rrow_f h0 h1 (Nat.le_trans hx1 (by decide)) hk3, Option.bind_some, if_pos hsz, ei, ← textS_snoc]
    exact ih2
theorem text_f {round : Int} (h0 : 0 ≤ round) (h1 : round ≤ 9223372036854775807) (l : List ByteArray) {b : Nat} (hb : b ≤ 1000000) (hl : ∀ x ∈ l, x.size ≤ b) (hn : l.length ≤ 1000000) {k : Nat} (hk : l.length + b + 60 ≤ k) : rivuletref10_Text.f k round l = some (textS round l) := by
  unfold rivuletref10_Text.f
  have := text_loop h0 h1 l hb hl hn l.length k 0 (by omega) (by omega)
  exact this
end Go.Proofs.Ytkiepnmbimkadaa.WF
