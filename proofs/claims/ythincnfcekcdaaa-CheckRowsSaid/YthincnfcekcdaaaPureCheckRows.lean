/-
  Texts that are sealed one behind the other are all told, in order, up to the end (of at most 12 texts, cut to 40 bytes).
-/
import Derived.Test.YthincnfcekcdaaaChkFns
import Derived.Test.YthincnfcekcdaaaChkFixed
import Derived.Test.YthincnfcekcdaaaPr3
import Derived.Test.YthincnfcekcdaaaPr12
namespace Go.Proofs.Ythincnfcekcdaaa.Pure
open Go.RowKit Go.Proofs.Ythincnfcekcdaaa Go.Proofs.Ythincnfcekcdaaa.Pr Go.Proofs.Ythincnfcekcdaaa.VP Go.Proofs.Ythincnfcekcdaaa.VF Go.Proofs.Ythincnfcekcdaaa.CP Go.Proofs.Ythincnfcekcdaaa.CF Go.Proofs.YthincnfcekcdaaaW.PrintWords Go.Proofs.YthincnfcekcdaaaW.PrintLast Go.Proofs.YthincnfcekcdaaaW.PrintMore

/-- A text, cut to 40 bytes. -/
def ct (s : ByteArray) : ByteArray := s.extract 0 (mn (s.size : Int) 40).toNat
theorem ct_size (s : ByteArray) : (ct s).size ≤ 40 := by
  have h := cut_size s (mn s.size 40)
  have := mn_bd (a := (s.size : Int)) (b := 40) (by omega) (by omega)
  unfold ct
  omega
theorem rdOf_get {l : List ByteArray} {i : Nat} (h : i < l.length) : rdOf ByteArray.empty l (i : Int) = l[i]'h := by
  unfold rdOf
  rw [Int.toNat_natCast, List.getD_eq_getElem?_getD, List.getElem?_eq_getElem h]
  rfl
theorem take_map {l : List ByteArray} {i : Nat} (h : i < l.length) : (l.take (i + 1)).map ct = (l.take i).map ct ++ [ct (l[i]'h)] := by
  rw [List.take_succ_eq_append_getElem h, List.map_append]
  rfl
theorem sealed_length (l : List ByteArray) (h : ∀ x ∈ l, x.size ≤ 40) : (sealed l).length ≤ 53 * l.length := by
  induction l with
  | nil => simp [sealed]
  | cons x l ih =>
    have h1 := ih (fun y hy => h y (by simp [hy]))
    have h2 := h x (by simp)
    have h3 := sz_bd x.size
    simp only [sealed, List.length_append, seal_length, List.length_cons]
    omega
theorem map_ct (l : List ByteArray) : ∀ x ∈ l.map ct, x.size ≤ 40 := by
  intro x hx
  obtain ⟨y, _, rfl⟩ := List.mem_map.1 hx
  exact ct_size y
theorem rows_end {acc : List ByteArray} (ha : ∀ x ∈ acc, x.size ≤ 40) (hl : acc.length ≤ 12) {k : Nat} (hk : 100 ≤ k) :
    check_All.f k (strOfNums (sealed acc)) = some (acc, ((strOfNums (sealed acc)).size : Int)) := by
  have h0 := sealed_length acc ha
  have hz : (strOfNums (sealed acc)).size = (sealed acc).length := strOfNums_size _
  have := all_sealed (s := strOfNums (sealed acc)) (by omega) [] (.inl rfl) acc k 0 [] (fun x hx => by have := ha x hx; omega) (by omega) (by rw [bytes_son (sealed_by acc), List.append_nil, List.drop_zero]) (by omega) (by simp; omega)
  unfold check_All.f
  rw [show ((0 : Nat) : Int) = 0 from rfl] at this
  rw [this, hz]
  simp
theorem Rows_loop (l : List ByteArray) (hl : l.length ≤ 9223372036854775807) : ∀ (d k i : Nat), i + d = min l.length 12 → d + 200 ≤ k → rivuletlaw02_CheckRows.l0 k l (strOfNums (sealed ((l.take i).map ct))) ((l.take i).map ct) i = some true := by
  intro d
  induction d with
  | zero =>
    intro k i hi hk
    obtain ⟨k, rfl⟩ : ∃ m, k = m + 1 := ⟨k - 1, by omega⟩
    have hlen : ((l.take i).map ct).length ≤ 12 := by rw [List.length_map, List.length_take]; omega
    have he := rows_end (map_ct (l.take i)) hlen (k := k) (by omega)
    simp only [rivuletlaw02_CheckRows.l0]
    have fin : ((check_All.f k (strOfNums (sealed ((l.take i).map ct)))).bind fun bt308 => ((rivuletref02_Same.f k bt308.1 ((l.take i).map ct)).bind fun t312 => (if t312 = true then (if bt308.2 = ((strOfNums (sealed ((l.take i).map ct))).size : Int) then ((rivuletlaw02_fixed.f k).bind fun t313 => (some t313)) else (some false)) else (some false)))) = some true := by
      rw [he, Option.bind_some, same_f _ _ (by show ((l.take i).map ct).length ≤ _; omega) (by show ((l.take i).map ct).length < _; omega), Option.bind_some]
      simp only [decide_true, if_true]
      rw [fixed_f (by omega)]
      rfl
    by_cases g : (i : Int) < l.length
    · rw [if_pos g, if_neg (by omega)]
      exact fin
    · rw [if_neg g]
      exact fin
  | succ d ih =>
    intro k i hi hk
    obtain ⟨k, rfl⟩ : ∃ m, k = m + 1 := ⟨k - 1, by omega⟩
    have hil : i < l.length := by omega
    have m1 := mn_bd (a := ((l[i]'hil).size : Int)) (b := 40) (by omega) (by omega)
    have hlen : ((l.take i).map ct).length ≤ 12 := by rw [List.length_map, List.length_take]; omega
    have h0 := sealed_length _ (map_ct (l.take i))
    have h1 := ct_size (l[i]'hil)
    have h2 := seal_length (ct (l[i]'hil))
    have h3 := sz_bd (ct (l[i]'hil)).size
    have hc : (l[i]'hil).extract 0 (mn ((l[i]'hil).size : Int) 40).toNat = ct (l[i]'hil) := rfl
    simp only [rivuletlaw02_CheckRows.l0]
    rw [if_pos (by omega), if_pos (by omega), if_pos (by omega), rdOf_get hil, if_pos m1.1, if_pos m1.2.1, hc, seal_f (by omega) (by omega), Option.bind_some, if_pos (by rw [strOfNums_size, strOfNums_size]; omega), if_pos (by omega), son_append, w64 (by omega), show (i : Int) + 1 = ((i + 1 : Nat) : Int) by omega]
    have hs : sealed ((l.take i).map ct) ++ sealB (ct (l[i]'hil)) = sealed ((l.take (i + 1)).map ct) := by
      rw [take_map hil, sealed_append]
      simp only [sealed, List.append_nil]
    rw [hs, ← take_map hil]
    exact ih k (i + 1) (by omega) (by omega)
theorem CheckRows : rivuletlaw02_CheckRows.Pure := by
  intro l hl _ _
  unfold maxLen at hl
  refine ⟨1000, ?_⟩
  unfold rivuletlaw02_CheckRows.f
  exact Rows_loop l hl (min l.length 12) 1000 0 (by omega) (by omega)
end Go.Proofs.Ythincnfcekcdaaa.Pure
