/-
  Numbers and texts one behind the other are got one by one, and nothing is left (of at most 30 numbers, 100 bytes).
-/
import Derived.Test.YtjmegjdgebmfeaaVarMore
import Derived.Test.YtjmegjdgebmfeaaPr9
namespace Go.Proofs.Ytjmegjdgebmfeaa.Pure
open Go.RowKit Go.Proofs.Ytjmegjdgebmfeaa Go.Proofs.Ytjmegjdgebmfeaa.Pr Go.Proofs.Ytjmegjdgebmfeaa.VP Go.Proofs.Ytjmegjdgebmfeaa.VF Go.Proofs.YtjmegjdgebmfeaaW.PrintWords Go.Proofs.YtjmegjdgebmfeaaW.PrintLast Go.Proofs.YtjmegjdgebmfeaaW.PrintMore

/-- What stands one behind the other. -/
def rows (s : ByteArray) : List Int → List Int
  | [] => []
  | n :: l => enc n ++ (enc s.size ++ bytesOf s) ++ rows s l
theorem rows_append (s : ByteArray) : ∀ l m, rows s (l ++ m) = rows s l ++ rows s m
  | [], m => rfl
  | n :: l, m => by simp only [List.cons_append, rows, rows_append s l m, List.append_assoc]
theorem rows_length (s : ByteArray) : ∀ l, (rows s l).length ≤ (18 + s.size) * l.length
  | [] => by simp [rows]
  | n :: l => by
    have := rows_length s l
    have h1 := sz_bd n
    have h2 := sz_bd s.size
    simp only [rows, List.length_append, enc_length, size_bytes, List.length_cons]
    rw [Nat.mul_add]
    omega
theorem rows_by (s : ByteArray) : ∀ l, (∀ x ∈ l, 0 ≤ x) → By (rows s l)
  | [], _ => By.nil
  | n :: l, h => ((enc_by (h n (by simp))).append ((enc_by (by omega)).append (bytes_by s))).append (rows_by s l fun x hx => h x (by simp [hx]))
theorem take_one {l : List Int} {i : Nat} (h : i < l.length) : l.drop i = l.getD i 0 :: l.drop (i + 1) := by
  rw [List.drop_eq_getElem_cons h, List.getD_eq_getElem?_getD, List.getElem?_eq_getElem h]
  rfl
theorem rd_get (l : List Int) (i : Nat) : rd l (i : Int) = l.getD i 0 := by simp [rd]
theorem Rows_loop1 {s : ByteArray} (hs : s.size ≤ 100) {l : List Int} (hl : l.length ≤ 30) (hw : ∀ x ∈ l, 0 ≤ x ∧ x ≤ 18446744073709551615) {K : Nat} (hK : ∀ k, 60 ≤ k → rivuletlaw01_VarintRows.l1 k s (strOfNums (rows s l)) l 0 0 = some true ∨ k < K) :
    ∀ (d k i : Nat), i + d = l.length → d + K + 80 ≤ k → rivuletlaw01_VarintRows.l0 k s (strOfNums (rows s (l.take i))) l i = some true := by
  intro d
  induction d with
  | zero =>
    intro k i hi hk
    obtain ⟨k, rfl⟩ : ∃ m, k = m + 1 := ⟨k - 1, by omega⟩
    simp only [rivuletlaw01_VarintRows.l0]
    rw [if_neg (by omega), List.take_of_length_le (by omega)]
    rcases hK k (by omega) with h | h
    · exact h
    · omega
  | succ d ih =>
    intro k i hi hk
    obtain ⟨k, rfl⟩ : ∃ m, k = m + 1 := ⟨k - 1, by omega⟩
    have hn := hw (l.getD i 0) (by rw [List.getD_eq_getElem?_getD, List.getElem?_eq_getElem (by omega)]; simp)
    have h1 := sz_bd (l.getD i 0)
    have h2 := sz_bd s.size
    have h3 := rows_length s (l.take i)
    have h4 : (l.take i).length ≤ 30 := by rw [List.length_take]; omega
    have h5 : (18 + s.size) * (l.take i).length ≤ 118 * 30 := Nat.mul_le_mul (by omega) h4
    simp only [rivuletlaw01_VarintRows.l0]
    rw [if_pos (by omega), if_pos (by omega), rd_get, put_enc hn.1 hn.2 (by omega), Option.bind_some, text_enc (by omega) (by omega), Option.bind_some, if_pos (by simp only [ByteArray.size_append, strOfNums_size, enc_length]; omega), if_pos (by simp only [ByteArray.size_append, strOfNums_size, enc_length]; omega), w64 (by omega)]
    have e : strOfNums (rows s (l.take i)) ++ (strOfNums (enc (l.getD i 0)) ++ (strOfNums (enc s.size) ++ s)) = strOfNums (rows s (l.take (i + 1))) := by
      rw [take_snoc (by omega), rows_append]
      simp only [rows, List.append_nil]
      rw [← son_append, ← son_append, ← son_append, son_bytes]
    rw [e, show (i : Int) + 1 = ((i + 1 : Nat) : Int) by omega]
    exact ih k (i + 1) (by omega) (by omega)
theorem Rows_loop2 {s : ByteArray} (hs : s.size ≤ 100) {l : List Int} (hl : l.length ≤ 30) (hw : ∀ x ∈ l, 0 ≤ x ∧ x ≤ 18446744073709551615) :
    ∀ (d k i : Nat), i + d = l.length → 2 * d + 40 ≤ k → rivuletlaw01_VarintRows.l1 k s (strOfNums (rows s l)) l ((rows s (l.take i)).length : Int) i = some true := by
  have hby : By (rows s l) := rows_by s l fun x hx => (hw x hx).1
  have hsz : (strOfNums (rows s l)).size = (rows s l).length := strOfNums_size _
  have hlen : (rows s l).length ≤ 3540 := by
    have h3 := rows_length s l
    have h5 : (18 + s.size) * l.length ≤ 118 * 30 := Nat.mul_le_mul (by omega) hl
    omega
  intro d
  induction d with
  | zero =>
    intro k i hi hk
    obtain ⟨k, rfl⟩ : ∃ m, k = m + 1 := ⟨k - 1, by omega⟩
    simp only [rivuletlaw01_VarintRows.l1]
    rw [if_neg (by omega), List.take_of_length_le (by omega), if_pos (by omega)]
    rfl
  | succ d ih =>
    intro k i hi hk
    obtain ⟨k, rfl⟩ : ∃ m, k = m + 2 := ⟨k - 2, by omega⟩
    have hn := hw (l.getD i 0) (by rw [List.getD_eq_getElem?_getD, List.getElem?_eq_getElem (by omega)]; simp)
    have h1 := sz_bd (l.getD i 0)
    have h2 := sz_bd s.size
    have hall : rows s l = rows s (l.take i) ++ (enc (l.getD i 0) ++ (enc s.size ++ (bytesOf s ++ rows s (l.drop (i + 1))))) := by
      conv => lhs; rw [← List.take_append_drop i l, rows_append, take_one (i := i) (by omega)]
      simp only [rows, List.append_assoc]
    have htk : (rows s (l.take (i + 1))).length = (rows s (l.take i)).length + sz (l.getD i 0) + (sz s.size + s.size) := by
      rw [take_snoc (by omega), rows_append]
      simp only [rows, List.append_nil, List.length_append, enc_length, size_bytes]
      omega
    have hlens : (rows s l).length = (rows s (l.take i)).length + (sz (l.getD i 0) + (sz s.size + (s.size + (rows s (l.drop (i + 1))).length))) := by
      rw [hall]
      simp only [List.length_append, enc_length, size_bytes]
    have hg : getS (strOfNums (rows s l)) ((rows s (l.take i)).length : Int) = (l.getD i 0, ((rows s (l.take i)).length : Int) + (sz (l.getD i 0) : Int), 0) := by
      unfold getS
      rw [if_neg (by omega), bytes_son hby, Int.toNat_natCast, hall, List.drop_left, dec_enc hn.1 hn.2, if_pos rfl]
    have hg2 : getS (strOfNums (rows s l)) (((rows s (l.take i)).length : Int) + (sz (l.getD i 0) : Int)) = ((s.size : Int), ((rows s (l.take i)).length : Int) + (sz (l.getD i 0) : Int) + (sz s.size : Int), 0) := by
      unfold getS
      rw [if_neg (by omega), bytes_son hby, show (((rows s (l.take i)).length : Int) + (sz (l.getD i 0) : Int)).toNat = (rows s (l.take i)).length + (enc (l.getD i 0)).length by rw [enc_length]; omega, hall, ← List.drop_drop, List.drop_left, List.drop_left, dec_enc (by omega) (by omega), if_pos rfl]
    have hc : cutS (strOfNums (rows s l)) (((rows s (l.take i)).length : Int) + (sz (l.getD i 0) : Int)) = (s, ((rows s (l.take (i + 1))).length : Int), 0) := by
      unfold cutS
      rw [hg2, if_pos rfl, if_neg (by simp only []; omega), if_neg (by simp only []; omega)]
      refine Prod.ext ?_ (Prod.ext ?_ rfl)
      · show (strOfNums (rows s l)).extract (((rows s (l.take i)).length : Int) + (sz (l.getD i 0) : Int) + (sz s.size : Int)).toNat (((rows s (l.take i)).length : Int) + (sz (l.getD i 0) : Int) + (sz s.size : Int) + (s.size : Int)).toNat = s
        apply bytes_inj
        rw [bytes_extract, bytes_son hby, show (((rows s (l.take i)).length : Int) + (sz (l.getD i 0) : Int) + (sz s.size : Int)).toNat = (rows s (l.take i)).length + ((enc (l.getD i 0)).length + (enc s.size).length) by rw [enc_length, enc_length]; omega,
          show (((rows s (l.take i)).length : Int) + (sz (l.getD i 0) : Int) + (sz s.size : Int) + (s.size : Int)).toNat - ((rows s (l.take i)).length + ((enc (l.getD i 0)).length + (enc s.size).length)) = (bytesOf s).length by rw [enc_length, enc_length, size_bytes]; omega,
          hall, ← List.drop_drop, List.drop_left, ← List.drop_drop, List.drop_left, List.drop_left, List.take_left]
      · show ((rows s (l.take i)).length : Int) + (sz (l.getD i 0) : Int) + (sz s.size : Int) + (s.size : Int) = ((rows s (l.take (i + 1))).length : Int)
        omega
    have hlt : ((rows s (l.take i)).length : Int) + (sz (l.getD i 0) : Int) < ((rows s (l.take (i + 1))).length : Int) := by omega
    have hgt : ¬ ((rows s (l.take i)).length : Int) + (sz (l.getD i 0) : Int) ≤ ((rows s (l.take i)).length : Int) := by omega
    simp only [rivuletlaw01_VarintRows.l1]
    rw [if_pos (by omega), get_getS (by omega) _ (by omega), Option.bind_some, hg, if_pos rfl, if_pos (by omega), rd_get, if_pos rfl]
    simp only [rivuletlaw01_VarintRows.j2]
    rw [if_neg (by simpa using hgt), cut_cutS (by omega) _ (by omega), Option.bind_some, hc, if_pos rfl, if_pos rfl, if_neg (by show ¬ ((rows s (l.take (i + 1))).length : Int) ≤ ((rows s (l.take i)).length : Int) + (sz (l.getD i 0) : Int); omega), w64 (by omega), show (i : Int) + 1 = ((i + 1 : Nat) : Int) by omega]
    exact ih k (i + 1) (by omega) (by omega)
theorem VarintRows : rivuletlaw01_VarintRows.Pure := by
  intro l s _ hl2 hw hs
  refine ⟨1000, ?_⟩
  unfold rivuletlaw01_VarintRows.f
  have m1 := mn_bd (a := (s.size : Int)) (b := 100) (by omega) (by omega)
  have m2 := mn_bd (a := (l.length : Int)) (b := 30) (by omega) (by omega)
  have z1 := cut_size s (mn s.size 100)
  have z2 : (l.take (mn l.length 30).toNat).length ≤ 30 := by rw [List.length_take]; omega
  have z3 : ∀ x ∈ l.take (mn l.length 30).toNat, 0 ≤ x ∧ x ≤ 18446744073709551615 := fun x hx => wf_u64 (hw x (List.mem_of_mem_take hx))
  rw [if_pos m1.1, if_pos m1.2.1, if_pos m2.1, if_pos m2.2.1]
  generalize s.extract 0 (mn s.size 100).toNat = t at *
  generalize l.take (mn l.length 30).toNat = m at *
  have h2 := fun k hk => Rows_loop2 (s := t) (by omega) z2 z3 m.length k 0 (by omega) hk
  have := Rows_loop1 (s := t) (by omega) z2 z3 (K := 200) (fun k _ => by
    by_cases g : k < 200
    · exact .inr g
    · exact .inl (h2 k (by omega))) m.length 1000 0 (by omega) (by omega)
  exact this
end Go.Proofs.Ytjmegjdgebmfeaa.Pure
