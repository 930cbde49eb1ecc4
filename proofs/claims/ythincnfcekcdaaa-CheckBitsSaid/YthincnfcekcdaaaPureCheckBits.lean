/-
  One bit that is turned within the sealed bytes, or within the sum, is found: Open says that the sum is wrong (texts cut to 300 bytes).
-/
import Derived.Test.YthincnfcekcdaaaChkMore
import Derived.Test.YthincnfcekcdaaaChkFixed
import Derived.Test.YthincnfcekcdaaaPr3
import Derived.Test.YthincnfcekcdaaaPr10
namespace Go.Proofs.Ythincnfcekcdaaa.Pure
open Go.RowKit Go.Proofs.Ythincnfcekcdaaa Go.Proofs.Ythincnfcekcdaaa.Pr Go.Proofs.Ythincnfcekcdaaa.VP Go.Proofs.Ythincnfcekcdaaa.VF Go.Proofs.Ythincnfcekcdaaa.CP Go.Proofs.Ythincnfcekcdaaa.CF Go.Proofs.YthincnfcekcdaaaW.PrintWords Go.Proofs.YthincnfcekcdaaaW.PrintLast Go.Proofs.YthincnfcekcdaaaW.PrintMore

/-- Sealed bytes of which one, behind the length, is another one: the sum is wrong. -/
theorem open_turned {x : ByteArray} (hx : x.size ≤ 65536) {j : Nat} {v : Int} (hj : j < x.size + 4) (hv0 : 0 ≤ v) (hv1 : v < 256) (hne : v ≠ (bytesOf x ++ sm x).getD j 0) :
    openS (strOfNums (enc x.size ++ (bytesOf x ++ sm x).set j v)) 0 = (⟨#[]⟩, 0, 5) := by
  have h1 := sz_bd x.size
  have hby : By ((bytesOf x ++ sm x).set j v) := by
    intro y hy
    rcases List.mem_or_eq_of_mem_set hy with h | rfl
    · exact ((bytes_by x).append (sm_by x)) y h
    · exact ⟨hv0, hv1⟩
  have hlen : ((bytesOf x ++ sm x).set j v).length = x.size + 4 := by rw [List.length_set, List.length_append, size_bytes, sm_length]
  have hL : By (enc x.size ++ (bytesOf x ++ sm x).set j v) := (enc_by (by omega)).append hby
  have hsz : (strOfNums (enc x.size ++ (bytesOf x ++ sm x).set j v)).size = sz x.size + (x.size + 4) := by rw [strOfNums_size, List.length_append, enc_length, hlen]
  have hb : bytesOf (strOfNums (enc x.size ++ (bytesOf x ++ sm x).set j v)) = enc x.size ++ (bytesOf x ++ sm x).set j v := bytes_son hL
  generalize hS : strOfNums (enc x.size ++ (bytesOf x ++ sm x).set j v) = S at *
  have hg : getS S 0 = ((x.size : Int), (sz x.size : Int), 0) := by
    unfold getS
    rw [if_neg (by omega), hb, show (0 : Int).toNat = 0 from rfl, List.drop_zero, dec_enc (by omega) (by omega), if_pos rfl, Int.zero_add]
  have hc : cutS S 0 = (S.extract (sz x.size) (sz x.size + x.size), ((sz x.size + x.size : Nat) : Int), 0) := by
    unfold cutS
    rw [hg]
    simp only [if_true]
    rw [if_neg (by omega), if_neg (by omega), Int.toNat_natCast, show ((sz x.size : Int) + (x.size : Int)).toNat = sz x.size + x.size by omega]
    rfl
  have hX : bytesOf (S.extract (sz x.size) (sz x.size + x.size)) = ((bytesOf x ++ sm x).set j v).take x.size := by
    rw [bytes_extract, hb, List.drop_left' (enc_length _), show sz x.size + x.size - sz x.size = x.size by omega]
  have hT : (bytesOf S).drop (sz x.size + x.size) = ((bytesOf x ++ sm x).set j v).drop x.size := by
    rw [hb, ← List.drop_drop, List.drop_left' (enc_length _)]
  unfold openS
  rw [hc]
  simp only [if_true]
  rw [if_neg (by omega), Int.toNat_natCast, hT, if_neg]
  intro hsum
  rw [List.take_of_length_le (by rw [List.length_drop, hlen]; omega)] at hsum
  by_cases a : j < x.size
  · have e1 : ((bytesOf x ++ sm x).set j v).drop x.size = sm x := by rw [List.drop_set_of_lt a, List.drop_left' (size_bytes x)]
    have e2 : ((bytesOf x ++ sm x).set j v).take x.size = (bytesOf x).set j v := by rw [List.set_append_left _ _ (by rw [size_bytes]; exact a), List.take_left' (by rw [List.length_set, size_bytes])]
    rw [e1] at hsum
    rw [e2] at hX
    have hadd := fr_inj (add_lt _ _) (add_lt _ _) hsum
    have hgd : (bytesOf x ++ sm x).getD j 0 = (((nb x).getD j 0 : Nat) : Int) := by
      rw [List.getD_eq_getElem?_getD, List.getElem?_append_left (by rw [size_bytes]; exact a), ← List.getD_eq_getElem?_getD, ← bt_get, bt_nb]
    have hnx : nb (S.extract (sz x.size) (sz x.size + x.size)) = (nb x).set j v.toNat := by
      have hm : ∀ s : ByteArray, nb s = (bytesOf s).map Int.toNat := by intro s; simp [nb, bytesOf]
      rw [hm, hX, hm x, List.map_set]
    rw [hnx] at hadd
    unfold CP.add at hadd
    have hlt : j < (nb x).length := by rw [nb_length]; exact a
    have hsplit : nb x = (nb x).take j ++ (nb x).getD j 0 :: (nb x).drop (j + 1) := by
      rw [List.getD_eq_getElem?_getD, List.getElem?_eq_getElem hlt, Option.getD_some, ← List.drop_eq_getElem_cons hlt, List.take_append_drop]
    have hset : (nb x).set j v.toNat = (nb x).take j ++ v.toNat :: (nb x).drop (j + 1) := by rw [List.set_eq_take_append_cons_drop, if_pos hlt]
    have hbn := nb_bn x
    have bt_ : Bn ((nb x).take j) := fun c hc => hbn c (List.mem_of_mem_take hc)
    have bd_ : Bn ((nb x).drop (j + 1)) := fun c hc => hbn c (List.mem_of_mem_drop hc)
    have hc : (nb x).getD j 0 < 256 := by
      rw [List.getD_eq_getElem?_getD, List.getElem?_eq_getElem hlt]
      exact hbn _ (List.getElem_mem _)
    have r1 := run_lt (nb x) (n := 4294967295) (by decide) hbn
    have r2 := run_lt ((nb x).take j ++ v.toNat :: (nb x).drop (j + 1)) (n := 4294967295) (by decide) (by
      intro c hc2
      rcases List.mem_append.1 hc2 with h | h
      · exact bt_ c h
      · rcases List.mem_cons.1 h with rfl | h
        · omega
        · exact bd_ c h)
    rw [hset] at hadd
    have he : CP.run 4294967295 (nb x) = CP.run 4294967295 ((nb x).take j ++ v.toNat :: (nb x).drop (j + 1)) := by
      simp only [Nat.sub_zero] at hadd
      omega
    have he2 : CP.run 4294967295 ((nb x).take j ++ (nb x).getD j 0 :: (nb x).drop (j + 1)) = CP.run 4294967295 ((nb x).take j ++ v.toNat :: (nb x).drop (j + 1)) := by rw [← hsplit]; exact he
    have := run_byte (n := 4294967295) (by decide) ((nb x).take j) ((nb x).drop (j + 1)) bt_ bd_ hc (by omega) he2
    rw [hgd, this] at hne
    omega
  · have e2 : ((bytesOf x ++ sm x).set j v).take x.size = bytesOf x := by rw [List.take_set_of_le (by omega), List.take_left' (size_bytes x)]
    have e1 : ((bytesOf x ++ sm x).set j v).drop x.size = (sm x).set (j - x.size) v := by rw [List.set_append_right _ _ (by rw [size_bytes]; omega), List.drop_left' (size_bytes x), size_bytes]
    rw [e2] at hX
    rw [bytes_inj hX, e1] at hsum
    have hk : j - x.size < (sm x).length := by rw [sm_length]; omega
    have h2 := congrArg (fun l => l.getD (j - x.size) 0) hsum
    simp only [List.getD_eq_getElem?_getD] at h2
    rw [List.getElem?_set_self hk] at h2
    rw [List.getD_eq_getElem?_getD, List.getElem?_append_right (by rw [size_bytes]; omega), size_bytes] at hne
    exact hne (by simpa using h2)
theorem shl_bit {m : Nat} (h : m ≤ 7) : shl .u8 1 (m : Int) = ((2 ^ m : Nat) : Int) := by
  unfold shl
  rw [Int.toNat_natCast, Nat.min_eq_left (by show m ≤ 8; omega), Int.one_mul]
  have : (2 : Nat) ^ m < 256 := Nat.pow_lt_pow_right (n := 8) (by decide) (by omega)
  have e : ((2 : Int) ^ m) = ((2 ^ m : Nat) : Int) := by simp
  rw [e]
  generalize (2 : Nat) ^ m = q at this
  exact IntWalk.u8_in _ (by omega)
theorem xor_bit {o m : Nat} (ho : o < 256) (hm : m ≤ 7) : ∃ v : Nat, Go.bits .xor .u8 (o : Int) ((2 ^ m : Nat) : Int) = (v : Int) ∧ v < 256 ∧ v ≠ o := by
  have hp : (2 : Nat) ^ m < 256 := Nat.pow_lt_pow_right (n := 8) (by decide) (by omega)
  refine ⟨o ^^^ 2 ^ m, u8_xor_nat o _ ho hp, Nat.xor_lt_two_pow (n := 8) ho hp, fun h => ?_⟩
  have h2 := congrArg (o ^^^ ·) h
  simp only [← Nat.xor_assoc, Nat.xor_self, Nat.zero_xor] at h2
  have := Nat.two_pow_pos m
  omega
theorem Bits_end (x : ByteArray) (hx : x.size ≤ 300) {m j : Nat} (hm7 : m ≤ 7) (hjl : j < x.size + 4) {k : Nat} (hk : 500 ≤ k) :
    ((check_Open.f k (strOfNums ((sealB x).set (sz x.size + j) (Go.bits .xor .u8 (rd (sealB x) ((sz x.size + j : Nat) : Int)) ((2 ^ m : Nat) : Int)))) 0).bind fun b => if b.2.2 = 5 then ((rivuletlaw02_fixed.f k).bind fun u => some u) else some false) = some true := by
  have hz := sz_bd x.size
  have hrd : rd (sealB x) ((sz x.size + j : Nat) : Int) = (bytesOf x ++ sm x).getD j 0 := by
    unfold rd sealB
    rw [Int.toNat_natCast, List.getD_eq_getElem?_getD, List.getD_eq_getElem?_getD, List.getElem?_append_right (by rw [enc_length]; omega), enc_length, show sz x.size + j - sz x.size = j by omega]
  have hjl2 : j < (bytesOf x ++ sm x).length := by rw [List.length_append, size_bytes, sm_length]; exact hjl
  have hb : 0 ≤ (bytesOf x ++ sm x).getD j 0 ∧ (bytesOf x ++ sm x).getD j 0 < 256 := by
    rw [List.getD_eq_getElem?_getD, List.getElem?_eq_getElem hjl2]
    exact ((bytes_by x).append (sm_by x)) _ (List.getElem_mem _)
  obtain ⟨o, ho⟩ := Int.eq_ofNat_of_zero_le hb.1
  obtain ⟨v, hv, hv1, hv2⟩ := xor_bit (o := o) (m := m) (by omega) hm7
  have hset : (sealB x).set (sz x.size + j) (v : Int) = enc x.size ++ (bytesOf x ++ sm x).set j (v : Int) := by
    unfold sealB
    rw [List.set_append_right _ _ (by rw [enc_length]; omega), enc_length, show sz x.size + j - sz x.size = j by omega]
  rw [hrd, ho, hv, hset]
  clear hv
  have hfin := open_turned (x := x) (by omega) (j := j) (v := (v : Int)) hjl (by omega) (by omega) (by rw [ho]; omega)
  rw [open_f (by rw [strOfNums_size, List.length_append, enc_length, List.length_set, List.length_append, size_bytes, sm_length]; omega) 0 (by omega), Option.bind_some, hfin]
  simp only [if_true]
  rw [fixed_f (by omega)]
  rfl
theorem CheckBits : rivuletlaw02_CheckBits.Pure := by
  intro s a1 a2 hs _ _
  refine ⟨1000, ?_⟩
  unfold rivuletlaw02_CheckBits.f
  have m1 := mn_bd (a := (s.size : Int)) (b := 300) (by omega) (by omega)
  have z1 := cut_size s (mn s.size 300)
  rw [if_pos m1.1, if_pos m1.2.1]
  have hx : (s.extract 0 (mn s.size 300).toNat).size ≤ 300 := by omega
  generalize s.extract 0 (mn s.size 300).toNat = x at *
  clear m1 z1
  by_cases h0 : (x.size : Int) = 0
  · rw [if_pos h0, fixed_f (by omega)]
    rfl
  rw [if_neg h0]
  have hl := seal_length x
  have hz := sz_bd x.size
  have ez : (strOfNums (sealB x)).size = (sealB x).length := strOfNums_size _
  obtain ⟨y, hy, _⟩ := and_mask a1 (c := 65535) (by decide)
  obtain ⟨m, hm, hm7⟩ := and_mask a2 (c := 7) (by decide)
  rw [show ((65535 : Nat) : Int) = 65535 from rfl] at hy
  rw [show ((7 : Nat) : Int) = 7 from rfl] at hm
  rw [hy, hm]
  clear hy hm
  have e1 : wrap64 (wrap64 (((sealB x).length : Int) - (x.size : Int)) - 4) = (sz x.size : Int) := by rw [w64 (n := ((sealB x).length : Int) - (x.size : Int)) (by omega), w64 (by omega)]; omega
  have e2 : wrap64 ((x.size : Int) + 4) = ((x.size + 4 : Nat) : Int) := by rw [w64 (by omega)]; omega
  rw [seal_f (by omega) (by omega), Option.bind_some, ez, e1]
  clear e1
  rw [if_neg (by omega), e2, if_neg (by omega)]
  clear e2
  obtain ⟨j, hj, hjl⟩ := tmod_in (x := y) (n := x.size + 4) (by omega)
  rw [hj]
  clear hj
  have e3 : wrap64 ((sz x.size : Int) + (j : Int)) = ((sz x.size + j : Nat) : Int) := by rw [w64 (by omega)]; omega
  rw [Option.bind_some, e3, bytes_son (seal_by x), List.nil_append, Int.toNat_natCast, shl_bit hm7]
  clear e3
  trace_state
  rw [if_pos (by simp; omega), Option.bind_some]
  trace_state
  rw [if_pos (by omega), if_pos (by omega), if_pos (by omega)]
  exact Bits_end x hx hm7 hjl (by omega)
end Go.Proofs.Ythincnfcekcdaaa.Pure
