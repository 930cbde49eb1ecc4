import Derived.Test.YtdoaomoocikmaaaDoorKCuts23
namespace Go.Proofs.YtdoaomoocikmaaaDoor.EP
open Go Go.RowKit Go.Proofs.YtdoaomoocikmaaaDoor Go.Proofs.YtdoaomoocikmaaaDoor.VP Go.Proofs.YtdoaomoocikmaaaDoor.VF Go.Proofs.YtdoaomoocikmaaaDoor.TP Go.Proofs.YtdoaomoocikmaaaDoor.EB Go.Proofs.YtdoaomoocikmaaaDoorW.PrintWords
theorem drop_step {L a b : List Int} {p : Nat} (h : L.drop p = a ++ b) : L.drop (p + a.length) = b := by
  rw [← List.drop_drop, h, List.drop_left]
theorem le_size {s : ByteArray} {p : Nat} {a : List Int} (h : (bytesOf s).drop p = a) (ha : a ≠ []) : p + a.length = s.size := by
  have := congrArg List.length h
  rw [List.length_drop, size_bytes] at this
  have : 0 < a.length := List.length_pos_iff.2 ha
  omega
theorem enc_ne (n : Int) : enc n ≠ [] := fun h => by
  have := enc_length n
  rw [h] at this
  have := sz_bd n
  simp at *
  omega
theorem getS_enc {s : ByteArray} {p : Nat} {n : Int} {r : List Int} (h0 : 0 ≤ n) (h1 : n ≤ 18446744073709551615) (h : (bytesOf s).drop p = enc n ++ r) : VF.getS s p = (n, ((p + sz n : Nat) : Int), 0) := by
  have hz := le_size h (fun g => enc_ne n (List.append_eq_nil_iff.1 g).1)
  unfold VF.getS
  rw [if_neg (by omega), Int.toNat_natCast, h, dec_enc h0 h1, if_pos rfl]
  simp
theorem cutS_enc {s x : ByteArray} {p : Nat} {r : List Int} (hx : x.size ≤ 65536) (h : (bytesOf s).drop p = (enc x.size ++ bytesOf x) ++ r) : VF.cutS s p = (x, ((p + (sz x.size + x.size) : Nat) : Int), 0) := by
  have hg := getS_enc (s := s) (p := p) (n := x.size) (r := bytesOf x ++ r) (by omega) (by omega) (by rw [h, List.append_assoc])
  have hz := le_size h (fun g => enc_ne x.size (List.append_eq_nil_iff.1 (List.append_eq_nil_iff.1 g).1).1)
  rw [List.length_append, List.length_append, enc_length, size_bytes] at hz
  unfold VF.cutS
  rw [hg]
  simp only []
  rw [if_pos trivial, if_neg (by omega), if_neg (by omega)]
  have e : s.extract (((p + sz x.size : Nat) : Int)).toNat (((p + sz x.size : Nat) : Int) + (x.size : Int)).toNat = x := by
    apply bytes_inj
    rw [bytes_extract, Int.toNat_natCast, show (((p + sz x.size : Nat) : Int) + (x.size : Int)).toNat - (p + sz x.size) = x.size by omega]
    have := drop_step (a := enc x.size) (b := bytesOf x ++ r) (show (bytesOf s).drop p = enc x.size ++ (bytesOf x ++ r) by rw [h, List.append_assoc])
    rw [enc_length] at this
    rw [this, ← size_bytes x, List.take_left]
  rw [e, show (((p + sz x.size : Nat) : Int) + (x.size : Int)) = ((p + (sz x.size + x.size) : Nat) : Int) by omega]
theorem numS_enc {s : ByteArray} {p : Nat} {n : Int} {r : List Int} (h0 : 0 ≤ n) (h1 : n ≤ 1099511627776) (h : (bytesOf s).drop p = enc n ++ r) : numS s p 0 = (n, ((p + (enc n).length : Nat) : Int), 0) := by
  unfold numS
  rw [getS_enc h0 (by omega) h, if_neg (by simp), if_neg (by simp), if_neg (show ¬ 1099511627777 ≤ n by omega), enc_length]
theorem textS_enc {s x : ByteArray} {p : Nat} {r : List Int} (hx : x.size ≤ 65536) (h : (bytesOf s).drop p = (enc x.size ++ bytesOf x) ++ r) : textS s p 0 = (x, ((p + (enc x.size ++ bytesOf x).length : Nat) : Int), 0) := by
  unfold textS
  rw [cutS_enc hx h, if_neg (by simp), if_neg (by simp), List.length_append, enc_length, size_bytes]
theorem rbd {o q : Int} {t l : ByteArray} {m : Int} (h : rightE o q t l m = true) : (0 ≤ o ∧ o ≤ 1099511627776) ∧ (1 ≤ q ∧ q ≤ 1099511627776) ∧ (0 ≤ m ∧ m ≤ 1000) ∧ rightB t = true ∧ l.size ≤ 64 := by
  unfold rightE at h
  simp only [Bool.and_eq_true, decide_eq_true_eq] at h
  exact ⟨h.1, h.2.1, h.2.2.1, h.2.2.2.1, h.2.2.2.2⟩
def Seg (s : ByteArray) (p : Nat) (e : List Int) : Prop := e = ((bytesOf s).drop p).take e.length ∧ p + e.length ≤ s.size
theorem Seg.append {s : ByteArray} {p : Nat} {a b : List Int} (h : Seg s p a) (k : Seg s (p + a.length) b) : Seg s p (a ++ b) := by
  refine ⟨?_, by rw [List.length_append]; have := k.2; omega⟩
  have h1 := h.1
  have k1 := k.1
  rw [← List.drop_drop] at k1
  rw [List.length_append, List.take_add, ← h1, ← k1]
theorem Seg.nil {s : ByteArray} {p : Nat} (h : p ≤ s.size) : Seg s p [] := ⟨by simp, h⟩
theorem numS_3 (s : ByteArray) (a : Int) : numS s a 3 = (-1, a, 3) := if_pos (by decide)
theorem textS_3 (s : ByteArray) (a : Int) : textS s a 3 = (⟨#[]⟩, a, 3) := if_pos (by decide)
theorem readM_3 (s : ByteArray) : ∀ (n : Nat) (a : Int), (readM s n a 3).2.2 = 3
  | 0, _ => rfl
  | n + 1, a => by
    simp only [readM, numS_3]
    exact readM_3 s n a
theorem getS_cut {s : ByteArray} {p j : Nat} {n : Int} {r : List Int} (h0 : 0 ≤ n) (hp : p ≤ s.size) (h : (bytesOf s).drop p = (enc n ++ r).take j) (hj : j < sz n) : VF.getS s p = (0, 0, 3) := by
  unfold VF.getS
  rw [if_neg (by omega), Int.toNat_natCast, h, List.take_append_of_le_length (by rw [enc_length]; omega), dec_short h0 hj]
  rfl
theorem take_past {a r : List Int} {j : Nat} (h : a.length ≤ j) : (a ++ r).take j = a ++ r.take (j - a.length) := by rw [List.take_append, List.take_of_length_le h]
theorem num_cut {s : ByteArray} {p j : Nat} {n : Int} {r : List Int} (h0 : 0 ≤ n) (h1 : n ≤ 1099511627776) (hp : p ≤ s.size) (h : (bytesOf s).drop p = (enc n ++ r).take j) :
    (j < (enc n).length ∧ numS s p 0 = (-1, (p : Int), 3)) ∨ ((enc n).length ≤ j ∧ numS s p 0 = (n, ((p + (enc n).length : Nat) : Int), 0) ∧ (bytesOf s).drop (p + (enc n).length) = r.take (j - (enc n).length) ∧ p + (enc n).length ≤ s.size) := by
  by_cases hj : j < (enc n).length
  · refine .inl ⟨hj, ?_⟩
    unfold numS
    rw [getS_cut h0 hp h (by rw [enc_length] at hj; exact hj), if_neg (by simp), if_pos (by simp)]
  · have h2 := h.trans (take_past (by omega))
    have hz := le_size h2 (fun g => enc_ne n (List.append_eq_nil_iff.1 g).1)
    rw [List.length_append] at hz
    exact .inr ⟨by omega, numS_enc h0 h1 h2, drop_step h2, by omega⟩
theorem text_cut {s x : ByteArray} {p j : Nat} {r : List Int} (hx : x.size ≤ 65536) (hp : p ≤ s.size) (h : (bytesOf s).drop p = ((enc x.size ++ bytesOf x) ++ r).take j) :
    (j < (enc x.size ++ bytesOf x).length ∧ (textS s p 0).2.2 = 3) ∨ ((enc x.size ++ bytesOf x).length ≤ j ∧ textS s p 0 = (x, ((p + (enc x.size ++ bytesOf x).length : Nat) : Int), 0) ∧ (bytesOf s).drop (p + (enc x.size ++ bytesOf x).length) = r.take (j - (enc x.size ++ bytesOf x).length) ∧ p + (enc x.size ++ bytesOf x).length ≤ s.size) := by
  by_cases hj : j < (enc x.size ++ bytesOf x).length
  · refine .inl ⟨hj, ?_⟩
    have hc : (VF.cutS s p).2.2 = 3 := by
      by_cases g : j < sz x.size
      · unfold VF.cutS
        rw [getS_cut (by omega) hp (h.trans (by rw [List.append_assoc])) g]
        rfl
      · have h2 : (bytesOf s).drop p = enc x.size ++ (bytesOf x ++ r).take (j - (enc x.size).length) := h.trans (by rw [List.append_assoc, take_past (by rw [enc_length]; omega)])
        have hz := congrArg List.length h
        rw [List.length_drop, size_bytes, List.length_take] at hz
        rw [List.length_append, enc_length, size_bytes] at hj
        rw [List.length_append, List.length_append, enc_length, size_bytes] at hz
        unfold VF.cutS
        rw [getS_enc (by omega) (by omega) h2]
        simp only []
        rw [if_pos trivial, if_neg (by omega), if_pos (by omega)]
    unfold textS
    rw [if_neg (by simp), if_pos (by rw [hc]; decide)]
    exact hc
  · have h2 := h.trans (take_past (by omega))
    have hz := le_size h2 (fun g => enc_ne x.size (List.append_eq_nil_iff.1 (List.append_eq_nil_iff.1 g).1).1)
    rw [List.length_append] at hz
    exact .inr ⟨by omega, textS_enc hx h2, drop_step h2, by omega⟩
theorem getE_short {s : ByteArray} {p j : Nat} {o q : Int} {t l : ByteArray} {m : Int} (hr : rightE o q t l m = true) (ht : t.size ≤ 65536) (hp : p ≤ s.size) (hj : j < (putE o q t l m).length) (h : (bytesOf s).drop p = (putE o q t l m).take j) :
    (getE s p).2.2.2.2.2.2 = 3 := by
  obtain ⟨⟨o0, o1⟩, ⟨q0, q1⟩, ⟨m0, m1⟩, _, l1⟩ := rbd hr
  have three : (read5 s p).2.2.2.2.2.2 = 3 → (getE s p).2.2.2.2.2.2 = 3 := fun e => by
    have hg : getE s p = if (read5 s p).2.2.2.2.2.2 ≠ 0 then (0, 0, ⟨#[]⟩, ⟨#[]⟩, 0, 0, (read5 s p).2.2.2.2.2.2) else _ := rfl
    rw [hg, e, if_pos (by decide)]
  unfold putE at h hj
  simp only [List.length_append] at hj
  apply three
  unfold read5
  rcases num_cut o0 o1 hp h with ⟨_, e1⟩ | ⟨g1, e1, h2, z2⟩
  · simp only [e1, numS_3, textS_3]
  simp only [e1]
  rcases num_cut (show 0 ≤ q by omega) q1 z2 h2 with ⟨_, e2⟩ | ⟨g2, e2, h3, z3⟩
  · simp only [e2, numS_3, textS_3]
  simp only [e2]
  rcases num_cut m0 (show m ≤ 1099511627776 by omega) z3 h3 with ⟨_, e3⟩ | ⟨g3, e3, h4, z4⟩
  · simp only [e3, textS_3]
  simp only [e3]
  rcases text_cut ht z4 h4 with ⟨_, e4⟩ | ⟨g4, e4, h5, z5⟩
  · simp only [e4, textS_3]
  simp only [e4]
  rw [show enc (l.size : Int) ++ bytesOf l = (enc (l.size : Int) ++ bytesOf l) ++ [] by simp] at h5
  rcases text_cut (show l.size ≤ 65536 by omega) z5 h5 with ⟨_, e5⟩ | ⟨g5, _, _, _⟩
  · exact e5
  · simp only [List.length_append] at g4 g5
    omega
theorem readM_short {s : ByteArray} : ∀ (l : List (Int × Int)) (p j : Nat), (∀ m ∈ l, 0 ≤ m.1 ∧ m.1 ≤ 1099511627776 ∧ 1 ≤ m.2 ∧ m.2 ≤ 1099511627776) → p ≤ s.size → j < (encM l).length → (bytesOf s).drop p = (encM l).take j → (readM s l.length p 0).2.2 = 3
  | [], _, _, _, _, hj, _ => absurd hj (by simp [encM])
  | m :: l, p, j, hb, hp, hj, h => by
    have hm := hb m (by simp)
    simp only [encM, List.append_assoc] at h hj
    simp only [List.length_append] at hj
    simp only [List.length_cons, readM]
    rcases num_cut hm.1 hm.2.1 hp h with ⟨_, e1⟩ | ⟨g1, e1, h2, z2⟩
    · simp only [e1, numS_3, readM_3]
    simp only [e1]
    rcases num_cut (show 0 ≤ m.2 by omega) hm.2.2.2 z2 h2 with ⟨_, e2⟩ | ⟨g2, e2, h3, z3⟩
    · simp only [e2, readM_3]
    simp only [e2]
    exact readM_short l _ _ (fun x hx => hb x (List.mem_cons_of_mem _ hx)) z3 (by omega) h3
theorem cutE_short {s : ByteArray} {p j : Nat} {l : List (Int × Int)} (hl : sortedB l = true) (hp : p ≤ s.size) (hj : j < (marksE l).length) (h : (bytesOf s).drop p = (marksE l).take j) : (cutE s p).2.2 = 3 := by
  obtain ⟨l1, l2⟩ := sorted_all hl
  unfold marksE at h hj
  rw [List.length_append] at hj
  unfold cutE
  simp only []
  rcases num_cut (show (0 : Int) ≤ l.length by omega) (by omega) hp h with ⟨_, e1⟩ | ⟨g1, e1, h2, z2⟩
  · simp only [e1]
    rw [if_neg (by decide)]
    simp only [show Int.toNat (-1) = 0 from rfl, readM]
    rw [if_pos (by decide)]
  · simp only [e1]
    rw [if_neg (by omega)]
    simp only [Int.toNat_natCast]
    have := readM_short l _ _ l2 z2 (by omega) h2
    rw [if_pos (by rw [this]; decide)]
    exact this
theorem bits_nonneg (x : Int) : 0 ≤ Go.bits .and .i64 x 65535 := by
  have e : ∃ m : Nat, Go.bits .and .i64 x 65535 = IntKind.i64.wrap (m : Int) ∧ m ≤ 65535 := by
    refine ⟨(BitVec.ofInt 64 x &&& BitVec.ofInt 64 65535).toNat, rfl, ?_⟩
    rw [BitVec.toNat_and]
    exact Nat.le_trans Nat.and_le_right (by decide)
  obtain ⟨m, e, hm⟩ := e
  rw [e, IntWalk.i64_in _ (by omega)]
  omega
theorem tmod_bd {x : Int} {n : Nat} (hx : 0 ≤ x) (hn : 0 < n) : ∃ j : Nat, Int.tmod x n = j ∧ j < n := by
  rw [Int.tmod_eq_emod_of_nonneg hx]
  have h0 := Int.emod_nonneg x (show (n : Int) ≠ 0 by omega)
  have h1 := Int.emod_lt_of_pos x (show (0 : Int) < n by omega)
  exact ⟨(x % n).toNat, by omega, by omega⟩
end Go.Proofs.YtdoaomoocikmaaaDoor.EP
