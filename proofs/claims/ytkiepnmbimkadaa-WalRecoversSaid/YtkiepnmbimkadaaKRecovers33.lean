import Derived.Test.YtkiepnmbimkadaaKRecovers30
import Derived.Test.YtkiepnmbimkadaaKRecovers31
import Derived.Test.YtkiepnmbimkadaaKRecovers32
import Derived.Test.YtkiepnmbimkadaaKRecovers16
import Derived.Test.YtkiepnmbimkadaaKRecovers20
import Derived.Test.YtkiepnmbimkadaaKRecovers21
import Derived.Test.YtkiepnmbimkadaaKRecovers27
import Derived.Test.YtkiepnmbimkadaaKRecovers19
namespace Go.Proofs.Ytkiepnmbimkadaa.WF
open Go.RowKit Go.Proofs.Ytkiepnmbimkadaa Go.Proofs.Ytkiepnmbimkadaa.Pr Go.Proofs.Ytkiepnmbimkadaa.VP Go.Proofs.Ytkiepnmbimkadaa.VF Go.Proofs.Ytkiepnmbimkadaa.CP Go.Proofs.Ytkiepnmbimkadaa.CF Go.Proofs.YtkiepnmbimkadaaW.PrintWords Go.Proofs.YtkiepnmbimkadaaW.PrintLast Go.Proofs.YtkiepnmbimkadaaW.PrintMore
def rowB (round : Int) (s : ByteArray) : ByteArray := strOfNums (sealB (strOfNums (enc round) ++ s))
theorem pre_size (round : Int) (s : ByteArray) : (strOfNums (enc round) ++ s).size = sz round + s.size := by rw [ByteArray.size_append, strOfNums_size, enc_length]
theorem rowB_size (round : Int) (s : ByteArray) : s.size < (rowB round s).size ∧ (rowB round s).size ≤ s.size + 22 := by
  have h1 := sz_bd round
  unfold rowB
  rw [strOfNums_size, seal_length, pre_size]
  have h2 := sz_bd ((sz round + s.size : Nat) : Int)
  omega
theorem row_f {round : Int} (h0 : 0 ≤ round) (h1 : round ≤ 9223372036854775807) {s : ByteArray} (hs : s.size ≤ 140737488350000) {k : Nat} (hk : 10 ≤ k) : wal_row.f k round s = some (rowB round s) := by
  have h2 := sz_bd round
  have h3 := pre_size round s
  unfold wal_row.f
  rw [u64 (by omega), put_enc h0 (by omega) hk, Option.bind_some, if_pos (by rw [strOfNums_size, enc_length]; omega), seal_f (by omega) hk]
  rfl
def partS (x : ByteArray) : Int × ByteArray × Int :=
  if (getS x 0).2.2 = 0 then (if (getS x 0).1 > 1099511627776 then (0, ⟨#[]⟩, 4) else ((getS x 0).1, x.extract (getS x 0).2.1.toNat x.size, 0)) else (0, ⟨#[]⟩, (getS x 0).2.2)
theorem part_f {x : ByteArray} (hx : x.size ≤ 140737488351232) {k : Nat} (hk : 12 ≤ k) : wal_parted.f k x = some (partS x) := by
  unfold wal_parted.f partS
  rw [get_getS hx 0 hk, Option.bind_some]
  rcases getS_cases x 0 with ⟨h, _, _⟩ | ⟨n, p, hp, e, h1, h2, h3, h4⟩
  · rw [if_neg h, if_neg h]
  · rw [e]
    simp only [if_true]
    by_cases b : n > 1099511627776
    · rw [if_pos b, if_pos b]
    · rw [if_neg b, if_neg b, if_pos (by omega), if_pos (by omega), w64 (by omega)]
def headS (s : ByteArray) : Int × ByteArray × Int :=
  if s = ⟨#[]⟩ then (0, ⟨#[]⟩, 0) else if (openS s 0).2.2 = 0 then (if (openS s 0).2.1 = (s.size : Int) then partS (openS s 0).1 else (0, ⟨#[]⟩, 4)) else (0, ⟨#[]⟩, (openS s 0).2.2)
theorem empty_iff (s : ByteArray) : s.toList = ([] : List UInt8) ↔ s = ⟨#[]⟩ := by
  rw [toList_eq]
  constructor
  · intro h
    apply ByteArray.ext
    apply Array.ext'
    exact h
  · rintro rfl
    rfl
theorem open_size (s : ByteArray) (a : Int) : (openS s a).1.size ≤ 65536 ∧ (openS s a).1.size ≤ s.size := by
  rcases openS_cases s a with ⟨x, _, e⟩ | ⟨p, x, _, h1, h2, _, e⟩
  · rw [e]
    exact ⟨Nat.zero_le _, Nat.zero_le _⟩
  · have := seal_length x
    rw [e]
    exact ⟨h1, by show x.size ≤ _; omega⟩
theorem head_f {s : ByteArray} (hs : s.size ≤ 140737488351232) {k : Nat} (hk : 20 ≤ k) : wal_head.f k s = some (headS s) := by
  have ho := open_size s 0
  unfold wal_head.f headS
  by_cases h : s = ⟨#[]⟩
  · rw [if_pos ((empty_iff s).2 h), if_pos h]
  · rw [if_neg (fun g => h ((empty_iff s).1 g)), if_neg h, open_f hs _ hk, Option.bind_some]
    by_cases h2 : (openS s 0).2.2 = 0
    · rw [if_pos h2, if_pos h2]
      by_cases h3 : (openS s 0).2.1 = (s.size : Int)
      · rw [if_pos h3, if_pos h3, part_f (by omega) (by omega), Option.bind_some]
      · rw [if_neg h3, if_neg h3]
    · rw [if_neg h2, if_neg h2]
theorem headS_round (s : ByteArray) : 0 ≤ (headS s).1 ∧ (headS s).1 ≤ 1099511627776 ∧ (headS s).2.1.size ≤ 65536 := by
  unfold headS
  split
  · exact ⟨Int.le_refl _, (show (0 : Int) ≤ 1099511627776 by decide), Nat.zero_le _⟩
  split
  · split
    · have ho := (open_size s 0).1
      unfold partS
      rcases getS_cases (openS s 0).1 0 with ⟨h, _, _⟩ | ⟨n, p, hp, e, h1, h2, h3, h4⟩
      · rw [if_neg h]
        exact ⟨Int.le_refl _, (show (0 : Int) ≤ 1099511627776 by decide), Nat.zero_le _⟩
      · rw [e]
        simp only [if_true]
        split
        · exact ⟨Int.le_refl _, (show (0 : Int) ≤ 1099511627776 by decide), Nat.zero_le _⟩
        · refine ⟨h3, by show n ≤ _; omega, ?_⟩
          show (ByteArray.extract _ _ _).size ≤ _
          rw [ByteArray.size_extract]
          omega
    · exact ⟨Int.le_refl _, (show (0 : Int) ≤ 1099511627776 by decide), Nat.zero_le _⟩
  · exact ⟨Int.le_refl _, (show (0 : Int) ≤ 1099511627776 by decide), Nat.zero_le _⟩
def allS (s : ByteArray) : List ByteArray × Int := (check_All.f (2 * s.size + 100) s).getD ([], 0)
theorem all_f {s : ByteArray} (hs : s.size ≤ 1000000000000) : check_All.f (2 * s.size + 100) s = some (allS s) ∧ rivuletref02_All.f (2 * s.size + 100) s = some (allS s) := by
  obtain ⟨r, h1, h2⟩ := all_both (s := s) (by omega) s.size (2 * s.size + 100) 0 [] (by omega) (by omega) (by simp; omega)
  have e : check_All.f (2 * s.size + 100) s = some r := h1
  unfold allS
  rw [e]
  exact ⟨rfl, h2⟩
theorem all_len {s : ByteArray} (hs : s.size ≤ 1000000000000) : ∀ (k p : Nat) (acc : List ByteArray) (r : List ByteArray × Int), check_All.l0 k s acc p = some r → (∀ x ∈ acc, x.size ≤ 65536) → acc.length ≤ p → p ≤ s.size → r.1.length ≤ s.size ∧ ∀ x ∈ r.1, x.size ≤ 65536 := by
  intro k
  induction k with
  | zero => intro p acc r h; simp [check_All.l0] at h
  | succ k ih =>
    intro p acc r h ha hp hps
    simp only [check_All.l0] at h
    by_cases g : (p : Int) < s.size
    · rw [if_pos g] at h
      obtain ⟨y, hy, h⟩ := Option.bind_eq_some_iff.1 h
      by_cases hk : 20 ≤ k
      · rw [open_f (by omega) _ hk] at hy
        injection hy with hy
        subst hy
        rcases openS_cases s p with ⟨x, hx, e⟩ | ⟨q, x, hq, h1, h2, h3, e⟩
        · rw [e] at h
          simp only [] at h
          rw [if_neg hx] at h
          injection h with h
          subst h
          exact ⟨by show acc.length ≤ _; omega, ha⟩
        · obtain rfl : p = q := by omega
          have hl := seal_length x
          rw [e] at h
          simp only [if_true] at h
          split at h
          · exact ih _ _ _ h (fun z hz => by
              rcases List.mem_append.1 hz with hz | hz
              · exact ha z hz
              · simp at hz; subst hz; exact h1) (by simp; omega) h2
          · cases h
      · have hm := check_Open.mono s p
        have : ∀ d, check_Open.f (k + d) s p = some y := by
          intro d
          induction d with
          | zero => exact hy
          | succ d ihd => exact hm (k + d) y ihd
        have hy2 := this 20
        rw [open_f (by omega) _ (by omega)] at hy2
        injection hy2 with hy2
        subst hy2
        rcases openS_cases s p with ⟨x, hx, e⟩ | ⟨q, x, hq, h1, h2, h3, e⟩
        · rw [e] at h
          simp only [] at h
          rw [if_neg hx] at h
          injection h with h
          subst h
          exact ⟨by show acc.length ≤ _; omega, ha⟩
        · obtain rfl : p = q := by omega
          have hl := seal_length x
          rw [e] at h
          simp only [if_true] at h
          split at h
          · exact ih _ _ _ h (fun z hz => by
              rcases List.mem_append.1 hz with hz | hz
              · exact ha z hz
              · simp at hz; subst hz; exact h1) (by simp; omega) h2
          · cases h
    · rw [if_neg g] at h
      injection h with h
      subst h
      exact ⟨by show acc.length ≤ _; omega, ha⟩
theorem allS_bd {s : ByteArray} (hs : s.size ≤ 1000000000000) : (allS s).1.length ≤ s.size ∧ ∀ x ∈ (allS s).1, x.size ≤ 65536 :=
  all_len hs _ 0 [] _ (all_f hs).1 (fun x hx => by simp at hx) (Nat.le_refl _) (Nat.zero_le _)
def recsS (round : Int) : List ByteArray → List ByteArray
  | [] => []
  | x :: l => if (getS x 0).2.2 = 0 then (if (getS x 0).1 = round then x.extract (getS x 0).2.1.toNat x.size :: recsS round l else recsS round l) else []
theorem recsS_bd (round : Int) {b : Nat} : ∀ l : List ByteArray, (∀ x ∈ l, x.size ≤ b) → (recsS round l).length ≤ l.length ∧ ∀ x ∈ recsS round l, x.size ≤ b
  | [], _ => ⟨Nat.le_refl _, fun x hx => by simp [recsS] at hx⟩
  | x :: l, h => by
    have ih := recsS_bd round l (fun y hy => h y (by simp [hy]))
    have hx := h x (by simp)
    unfold recsS
    split
    · split
      · refine ⟨Nat.succ_le_succ ih.1, fun y hy => ?_⟩
        rcases List.mem_cons.1 hy with rfl | hy
        · rw [ByteArray.size_extract]; omega
        · exact ih.2 y hy
      · exact ⟨Nat.le_succ_of_le ih.1, ih.2⟩
    · exact ⟨Nat.zero_le _, fun y hy => by simp at hy⟩
def textS (round : Int) : List ByteArray → ByteArray
  | [] => ⟨#[]⟩
  | x :: l => rowB round x ++ textS round l
theorem textS_append (round : Int) : ∀ l m, textS round (l ++ m) = textS round l ++ textS round m
  | [], m => by
    show textS round m = ⟨#[]⟩ ++ textS round m
    apply ByteArray.ext
    simp
  | x :: l, m => by
    show rowB round x ++ textS round (l ++ m) = rowB round x ++ textS round l ++ textS round m
    rw [textS_append round l m, ByteArray.append_assoc]
theorem textS_snoc (round : Int) (l : List ByteArray) (x : ByteArray) : textS round (l ++ [x]) = textS round l ++ rowB round x := by
  rw [textS_append]
  congr 1
  show rowB round x ++ ⟨#[]⟩ = _
  apply ByteArray.ext
  simp
theorem textS_size (round : Int) {b : Nat} : ∀ l : List ByteArray, (∀ x ∈ l, x.size ≤ b) → (textS round l).size ≤ l.length * (b + 22)
  | [], _ => Nat.zero_le _
  | x :: l, h => by
    have ih := textS_size round l (fun y hy => h y (by simp [hy]))
    have hx := h x (by simp)
    have hr := (rowB_size round x).2
    show (rowB round x ++ textS round l).size ≤ _
    rw [ByteArray.size_append, List.length_cons, Nat.succ_mul]
    omega
end Go.Proofs.Ytkiepnmbimkadaa.WF
