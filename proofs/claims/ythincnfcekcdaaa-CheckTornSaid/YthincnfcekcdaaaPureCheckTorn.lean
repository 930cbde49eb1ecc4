/-
  Of sealed bytes one behind the other, cut off anywhere, the first ones are told that are whole, and nothing else (of at most 12 rows, cut to 40 bytes).
-/
import Derived.Test.YthincnfcekcdaaaChkMore
import Derived.Test.YthincnfcekcdaaaChkFixed
import Derived.Test.YthincnfcekcdaaaPr3
import Derived.Test.YthincnfcekcdaaaPr11
namespace Go.Proofs.Ythincnfcekcdaaa.Pure
open Go.RowKit Go.Proofs.Ythincnfcekcdaaa Go.Proofs.Ythincnfcekcdaaa.Pr Go.Proofs.Ythincnfcekcdaaa.VP Go.Proofs.Ythincnfcekcdaaa.VF Go.Proofs.Ythincnfcekcdaaa.CP Go.Proofs.Ythincnfcekcdaaa.CF Go.Proofs.YthincnfcekcdaaaW.PrintWords Go.Proofs.YthincnfcekcdaaaW.PrintLast Go.Proofs.YthincnfcekcdaaaW.PrintMore

/-- A text, cut to 40 bytes. -/
def ct40 (s : ByteArray) : ByteArray := s.extract 0 (mn (s.size : Int) 40).toNat
theorem ct40_size (s : ByteArray) : (ct40 s).size ≤ 40 := by
  have h := cut_size s (mn s.size 40)
  have := mn_bd (a := (s.size : Int)) (b := 40) (by omega) (by omega)
  unfold ct40
  omega
theorem torn_get {l : List ByteArray} {i : Nat} (h : i < l.length) : rdOf ByteArray.empty l (i : Int) = l[i]'h := by
  unfold rdOf
  rw [Int.toNat_natCast, List.getD_eq_getElem?_getD, List.getElem?_eq_getElem h]
  rfl
theorem torn_take {l : List ByteArray} {i : Nat} (h : i < l.length) : (l.take (i + 1)).map ct40 = (l.take i).map ct40 ++ [ct40 (l[i]'h)] := by
  rw [List.take_succ_eq_append_getElem h, List.map_append]
  rfl
theorem torn_length (l : List ByteArray) (h : ∀ x ∈ l, x.size ≤ 40) : (sealed l).length ≤ 53 * l.length := by
  induction l with
  | nil => simp [sealed]
  | cons x l ih =>
    have h1 := ih (fun y hy => h y (by simp [hy]))
    have h2 := h x (by simp)
    have h3 := sz_bd x.size
    simp only [sealed, List.length_append, seal_length, List.length_cons]
    omega
theorem torn_ct (l : List ByteArray) : ∀ x ∈ l.map ct40, x.size ≤ 40 := by
  intro x hx
  obtain ⟨y, _, rfl⟩ := List.mem_map.1 hx
  exact ct40_size y
/-- Where each of the sealed texts ends. -/
def ends (A : List ByteArray) : List Int := (List.range A.length).map (fun i => ((sealed (A.take (i + 1))).length : Int))
theorem ends_length (A : List ByteArray) : (ends A).length = A.length := by simp [ends]
theorem ends_rd {A : List ByteArray} {n : Nat} (h : n < A.length) : rd (ends A) (n : Int) = ((sealed (A.take (n + 1))).length : Int) := by
  unfold rd ends
  rw [Int.toNat_natCast, List.getD_eq_getElem?_getD, List.getElem?_map, List.getElem?_range h]
  rfl
theorem ends_append (A : List ByteArray) (x : ByteArray) : ends (A ++ [x]) = ends A ++ [((sealed (A ++ [x])).length : Int)] := by
  unfold ends
  rw [List.length_append, List.length_singleton, List.range_succ, List.map_append]
  congr 1
  · apply List.map_congr_left
    intro i hi
    rw [List.take_append_of_le_length (by have := List.mem_range.1 hi; omega)]
  · rw [List.map_singleton, List.take_of_length_le (by simp)]
theorem torn_all {A : List ByteArray} (ha : ∀ x ∈ A, x.size ≤ 40) (hl : A.length ≤ 12) {q n : Nat} (hn : n ≤ A.length) (h1 : (sealed (A.take n)).length ≤ q) (hq : q ≤ (sealed A).length) (h2 : n = A.length ∨ ∃ h : n < A.length, q < (sealed (A.take (n + 1))).length) {k : Nat} (hk : 100 ≤ k) :
    check_All.f k ((strOfNums (sealed A)).extract 0 q) = some (A.take n, ((sealed (A.take n)).length : Int)) := by
  have h0 := torn_length A ha
  have hz : ((strOfNums (sealed A)).extract 0 q).size = q := by rw [ext_size _ (by omega) (by rw [strOfNums_size]; exact hq), Nat.sub_zero]
  have hb : bytesOf ((strOfNums (sealed A)).extract 0 q) = (sealed A).take q := by rw [bytes_extract, bytes_son (sealed_by A), List.drop_zero, Nat.sub_zero]
  have hsp : sealed A = sealed (A.take n) ++ sealed (A.drop n) := by rw [← sealed_append, List.take_append_drop]
  have hb2 : bytesOf ((strOfNums (sealed A)).extract 0 q) = sealed (A.take n) ++ (sealed (A.drop n)).take (q - (sealed (A.take n)).length) := by
    rw [hb]
    conv => lhs; rw [hsp]
    rw [List.take_append, List.take_of_length_le h1]
  have hlt : (A.take n).length = n := by rw [List.length_take]; omega
  have hmem : ∀ x ∈ A.take n, x.size ≤ 65536 := fun x hx => by have := ha x (List.mem_of_mem_take hx); omega
  have hrest : (sealed (A.drop n)).take (q - (sealed (A.take n)).length) = [] ∨ ∀ p : Nat, (bytesOf ((strOfNums (sealed A)).extract 0 q)).drop p = (sealed (A.drop n)).take (q - (sealed (A.take n)).length) → p ≤ ((strOfNums (sealed A)).extract 0 q).size → (openS ((strOfNums (sealed A)).extract 0 q) p).2.2 ≠ 0 := by
    rcases h2 with e | ⟨hn2, h2⟩
    · left
      rw [e, List.drop_length]
      exact List.take_nil
    · right
      intro p hp hps
      have e1 : A.take (n + 1) = A.take n ++ [A[n]'hn2] := List.take_succ_eq_append_getElem hn2
      rw [e1, sealed_append, List.length_append] at h2
      simp only [sealed, List.append_nil] at h2
      rw [List.drop_eq_getElem_cons hn2] at hp
      simp only [sealed] at hp
      rw [List.take_append_of_le_length (by omega)] at hp
      have := open_short (x := A[n]'hn2) (by have := ha _ (List.getElem_mem hn2); omega) hps (j := q - (sealed (A.take n)).length) (by omega) hp
      rw [this]
      decide
  have := all_sealed (s := (strOfNums (sealed A)).extract 0 q) (by omega) _ hrest (A.take n) k 0 [] hmem (Nat.zero_le _) (by rw [List.drop_zero]; exact hb2) (by omega) (by simp; omega)
  unfold check_All.f
  rw [show ((0 : Nat) : Int) = 0 from rfl] at this
  rw [this, List.nil_append, Nat.zero_add]
theorem torn_fin {A : List ByteArray} (ha : ∀ x ∈ A, x.size ≤ 40) (hl : A.length ≤ 12) {q n : Nat} (hn : n ≤ A.length) (h1 : (sealed (A.take n)).length ≤ q) (hq : q ≤ (sealed A).length) (h2 : n = A.length ∨ ∃ h : n < A.length, q < (sealed (A.take (n + 1))).length) {k : Nat} (hk : 200 ≤ k) :
    ((check_All.f k ((strOfNums (sealed A)).extract 0 ((q : Int)).toNat)).bind fun b => (if (n : Int) ≤ (A.length : Int) then ((rivuletref02_Same.f k b.1 (A.take ((n : Int)).toNat)).bind fun t => (if t = true then (if b.2 = ((sealed (A.take n)).length : Int) then ((rivuletlaw02_fixed.f k).bind fun u => (some u)) else (some false)) else (some false))) else (none))) = some true := by
  rw [Int.toNat_natCast, Int.toNat_natCast, torn_all ha hl hn h1 hq h2 (by omega), Option.bind_some, if_pos (by omega)]
  have hlt : (A.take n).length = n := by rw [List.length_take]; omega
  rw [same_f _ _ (by show (A.take n).length ≤ _; omega) (by show (A.take n).length < _; omega), Option.bind_some]
  simp only [decide_true, if_true]
  rw [fixed_f (by omega)]
  rfl
theorem Torn_count {A : List ByteArray} (ha : ∀ x ∈ A, x.size ≤ 40) (hl : A.length ≤ 12) {q : Nat} (hq : q ≤ (sealed A).length) : ∀ (d k n : Nat), n + d = A.length → d + 300 ≤ k → (sealed (A.take n)).length ≤ q →
    rivuletlaw02_CheckTorn.l1 k (strOfNums (sealed A)) A (ends A) q n ((sealed (A.take n)).length : Int) = some true := by
  have hz : (strOfNums (sealed A)).size = (sealed A).length := strOfNums_size _
  intro d
  induction d with
  | zero =>
    intro k n hn hk h1
    obtain ⟨k, rfl⟩ : ∃ m, k = m + 1 := ⟨k - 1, by omega⟩
    simp only [rivuletlaw02_CheckTorn.l1]
    rw [ends_length, if_neg (by omega), if_pos (by omega), if_pos (by omega)]
    simp only [show (0 : Int) ≤ (n : Int) from by omega, if_true]
    exact torn_fin ha hl (by omega) h1 hq (.inl (by omega)) (by omega)
  | succ d ih =>
    intro k n hn hk h1
    obtain ⟨k, rfl⟩ : ∃ m, k = m + 1 := ⟨k - 1, by omega⟩
    simp only [rivuletlaw02_CheckTorn.l1]
    rw [ends_length, if_pos (by omega), if_pos (by omega), ends_rd (by omega)]
    by_cases g : (sealed (A.take (n + 1))).length ≤ q
    · rw [if_pos (by omega), w64 (by omega), show (n : Int) + 1 = ((n + 1 : Nat) : Int) by omega]
      exact ih k (n + 1) (by omega) (by omega) g
    · rw [if_neg (by omega), if_pos (by omega), if_pos (by omega)]
      exact torn_fin ha hl (by omega) h1 hq (.inr ⟨by omega, by omega⟩) (by omega)
theorem Torn_cut {A : List ByteArray} (ha : ∀ x ∈ A, x.size ≤ 40) (hl : A.length ≤ 12) (a : Int) {k : Nat} (hk : 400 ≤ k) : rivuletlaw02_CheckTorn.j1 k a (strOfNums (sealed A)) A (ends A) = some true := by
  obtain ⟨k, rfl⟩ : ∃ m, k = m + 1 := ⟨k - 1, by omega⟩
  have h0 := torn_length A ha
  have hz : (strOfNums (sealed A)).size = (sealed A).length := strOfNums_size _
  have e1 : wrap64 (((sealed A).length : Int) + 1) = (((sealed A).length + 1 : Nat) : Int) := by rw [w64 (by omega)]; omega
  simp only [rivuletlaw02_CheckTorn.j1]
  rw [hz, e1, if_neg (by omega)]
  obtain ⟨y, hy, _⟩ := and_mask a (c := 65535) (by decide)
  rw [show ((65535 : Nat) : Int) = 65535 from rfl] at hy
  rw [hy]
  clear hy
  obtain ⟨j, hj, hjl⟩ := tmod_in (x := y) (n := (sealed A).length + 1) (by omega)
  rw [hj]
  clear hj
  exact Torn_count ha hl (q := j) (by omega) A.length k 0 (by omega) (by omega) (Nat.zero_le _)
theorem Torn_loop (l : List ByteArray) (hl : l.length ≤ 9223372036854775807) (a : Int) : ∀ (d k i : Nat), i + d = min l.length 12 → d + 500 ≤ k → rivuletlaw02_CheckTorn.l0 k l a (strOfNums (sealed ((l.take i).map ct40))) ((l.take i).map ct40) (ends ((l.take i).map ct40)) i = some true := by
  intro d
  induction d with
  | zero =>
    intro k i hi hk
    obtain ⟨k, rfl⟩ : ∃ m, k = m + 1 := ⟨k - 1, by omega⟩
    have hlen : ((l.take i).map ct40).length ≤ 12 := by rw [List.length_map, List.length_take]; omega
    have fin := Torn_cut (torn_ct (l.take i)) hlen a (k := k) (by omega)
    simp only [rivuletlaw02_CheckTorn.l0]
    by_cases g : (i : Int) < l.length
    · rw [if_pos g, if_neg (by omega)]
      exact fin
    · rw [if_neg g]
      exact fin
  | succ d ih =>
    intro k i hi hk
    obtain ⟨k, rfl⟩ : ∃ m, k = m + 1 := ⟨k - 1, by omega⟩
    have hil : i < l.length := by omega
    have m1 := mn_bd (a := ((l[i]'hil).size : Int)) (b := 40) (by omega) (by omega)
    have hlen : ((l.take i).map ct40).length ≤ 12 := by rw [List.length_map, List.length_take]; omega
    have h0 := torn_length _ (torn_ct (l.take i))
    have h1 := ct40_size (l[i]'hil)
    have h2 := seal_length (ct40 (l[i]'hil))
    have h3 := sz_bd (ct40 (l[i]'hil)).size
    have hc : (l[i]'hil).extract 0 (mn ((l[i]'hil).size : Int) 40).toNat = ct40 (l[i]'hil) := rfl
    have hs : sealed ((l.take i).map ct40) ++ sealB (ct40 (l[i]'hil)) = sealed ((l.take (i + 1)).map ct40) := by
      rw [torn_take hil, sealed_append]
      simp only [sealed, List.append_nil]
    have he : ends ((l.take (i + 1)).map ct40) = ends ((l.take i).map ct40) ++ [((sealed ((l.take (i + 1)).map ct40)).length : Int)] := by
      rw [torn_take hil, ends_append]
    simp only [rivuletlaw02_CheckTorn.l0]
    rw [if_pos (by omega), if_pos (by omega), if_pos (by omega), torn_get hil, if_pos m1.1, if_pos m1.2.1, hc, seal_f (by omega) (by omega), Option.bind_some, if_pos (by rw [strOfNums_size, strOfNums_size]; omega), if_pos (by omega), if_pos (by rw [ends_length]; omega), son_append, hs, ← torn_take hil, strOfNums_size, ← he, w64 (by omega), show (i : Int) + 1 = ((i + 1 : Nat) : Int) by omega]
    exact ih k (i + 1) (by omega) (by omega)
theorem CheckTorn : rivuletlaw02_CheckTorn.Pure := by
  intro l a hl _ _ _
  unfold maxLen at hl
  refine ⟨1000, ?_⟩
  unfold rivuletlaw02_CheckTorn.f
  exact Torn_loop l hl a (min l.length 12) 1000 0 (by omega) (by omega)
end Go.Proofs.Ythincnfcekcdaaa.Pure
