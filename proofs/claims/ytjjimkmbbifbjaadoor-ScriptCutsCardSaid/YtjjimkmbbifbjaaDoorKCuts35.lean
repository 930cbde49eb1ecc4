import Derived.Test.YtjjimkmbbifbjaaDoorKCuts23
namespace Go.Proofs.YtjjimkmbbifbjaaDoor.SP
open Go Go.RowKit Go.Proofs.YtjjimkmbbifbjaaDoor Go.Proofs.YtjjimkmbbifbjaaDoor.SW Go.Proofs.YtjjimkmbbifbjaaDoor.VP Go.Proofs.YtjjimkmbbifbjaaDoor.VF Go.Proofs.YtjjimkmbbifbjaaDoor.TP Go.Proofs.YtjjimkmbbifbjaaDoorW.PrintWords
theorem drop_step {L a b : List Int} {p : Nat} (h : L.drop p = a ++ b) : L.drop (p + a.length) = b := by
  rw [← List.drop_drop, h, List.drop_left]
theorem le_size {s : ByteArray} {p : Nat} {a : List Int} (h : (bytesOf s).drop p = a) (ha : a ≠ []) : p + a.length = s.size := by
  have := congrArg List.length h
  rw [List.length_drop, size_bytes] at this
  have : 0 < a.length := List.length_pos_iff.2 ha
  omega
theorem enc_ne (n : Int) : enc n ≠ [] := fun h => by
  have := enc_length n
  rw [h] at this
  have := sz_bd n
  simp at *
  omega
theorem getS_enc {s : ByteArray} {p : Nat} {n : Int} {r : List Int} (h0 : 0 ≤ n) (h1 : n ≤ 18446744073709551615) (h : (bytesOf s).drop p = enc n ++ r) : VF.getS s p = (n, ((p + (enc n).length : Nat) : Int), 0) := by
  have hz := le_size h (fun g => enc_ne n (List.append_eq_nil_iff.1 g).1)
  rw [enc_length]
  unfold VF.getS
  rw [if_neg (by omega), Int.toNat_natCast, h, dec_enc h0 h1, if_pos rfl]
  simp
def tL (x : ByteArray) : List Int := enc x.size ++ bytesOf x
theorem tL_length (x : ByteArray) : (tL x).length = sz x.size + x.size := by unfold tL; rw [List.length_append, enc_length, size_bytes]
theorem cutS_enc {s x : ByteArray} {p : Nat} {r : List Int} (hx : x.size ≤ 65536) (h : (bytesOf s).drop p = tL x ++ r) : VF.cutS s p = (x, ((p + (tL x).length : Nat) : Int), 0) := by
  rw [tL_length]
  unfold tL at h
  have hg := getS_enc (s := s) (p := p) (n := x.size) (r := bytesOf x ++ r) (by omega) (by omega) (by rw [h, List.append_assoc])
  have hz := le_size h (fun g => enc_ne x.size (List.append_eq_nil_iff.1 (List.append_eq_nil_iff.1 g).1).1)
  rw [List.length_append, List.length_append, enc_length, size_bytes] at hz
  rw [enc_length] at hg
  unfold VF.cutS
  rw [hg]
  simp only []
  rw [if_pos trivial, if_neg (by omega), if_neg (by omega)]
  have e : s.extract (((p + sz x.size : Nat) : Int)).toNat (((p + sz x.size : Nat) : Int) + (x.size : Int)).toNat = x := by
    apply bytes_inj
    rw [bytes_extract, Int.toNat_natCast, show (((p + sz x.size : Nat) : Int) + (x.size : Int)).toNat - (p + sz x.size) = x.size by omega]
    have := drop_step (a := enc x.size) (b := bytesOf x ++ r) (show (bytesOf s).drop p = enc x.size ++ (bytesOf x ++ r) by rw [h, List.append_assoc])
    rw [enc_length] at this
    rw [this, ← size_bytes x, List.take_left]
  rw [e, show (((p + sz x.size : Nat) : Int) + (x.size : Int)) = ((p + (sz x.size + x.size) : Nat) : Int) by omega]
def Seg (s : ByteArray) (p : Nat) (e : List Int) : Prop := e = ((bytesOf s).drop p).take e.length ∧ p + e.length ≤ s.size
theorem Seg.append {s : ByteArray} {p : Nat} {a b : List Int} (h : Seg s p a) (k : Seg s (p + a.length) b) : Seg s p (a ++ b) := by
  refine ⟨?_, by rw [List.length_append]; have := k.2; omega⟩
  have h1 := h.1
  have k1 := k.1
  rw [← List.drop_drop] at k1
  rw [List.length_append, List.take_add, ← h1, ← k1]
theorem Seg.nil {s : ByteArray} {p : Nat} (h : p ≤ s.size) : Seg s p [] := ⟨by simp, h⟩
theorem Seg.drop {s : ByteArray} {p : Nat} {a : List Int} (h : Seg s p a) : (bytesOf s).drop p = a ++ (bytesOf s).drop (p + a.length) := by
  have := List.take_append_drop a.length ((bytesOf s).drop p)
  rw [← h.1, List.drop_drop] at this
  exact this.symm
theorem Seg.of {s : ByteArray} {p : Nat} {a r : List Int} (hp : p ≤ s.size) (h : (bytesOf s).drop p = a ++ r) : Seg s p a := by
  refine ⟨by rw [h, List.take_left], ?_⟩
  have := congrArg List.length h
  rw [List.length_drop, size_bytes, List.length_append] at this
  omega
def eL (h : Int) (i : Nat) (v : Int) : List Int := if bH h i = true then enc v else []
def fL (h : Int) (b : Bool) : List Int := if bH h 4 = true then [if b = true then 1 else 0] else []
def xL (h : Int) (i : Nat) (x : ByteArray) : List Int := if bH h i = true then tL x else []
def putL (k n N K : Int) (s t : ByteArray) (b : Bool) (T : Int) : List Int :=
  [k] ++ (eL (hasB k) 0 n ++ (eL (hasB k) 1 N ++ (eL (hasB k) 2 K ++ (eL (hasB k) 3 T ++ (fL (hasB k) b ++ (xL (hasB k) 5 s ++ xL (hasB k) 6 t))))))
theorem bytes_accN (h : Int) (S0 : ByteArray) (v : Nat → Int) {i : Nat} (h0 : 0 ≤ v i) : bytesOf (accN h S0 v (i + 1)) = bytesOf (accN h S0 v i) ++ eL h i (v i) := by
  unfold eL
  cases hb : bH h i with
  | true => rw [accN_t hb, bytes_append, bytes_son (enc_by h0), if_pos rfl]
  | false => rw [accN_f hb, if_neg (by decide), List.append_nil]
theorem bytes_accT (h : Int) (S0 : ByteArray) (v : Nat → ByteArray) (i : Nat) : bytesOf (accT h S0 v (i + 1)) = bytesOf (accT h S0 v i) ++ xL h (5 + i) (v i) := by
  unfold xL tL
  cases hb : bH h (5 + i) with
  | true => rw [accT_t hb, bytes_append, bytes_append, bytes_son (enc_by (by omega)), if_pos rfl]
  | false => rw [accT_f hb, if_neg (by decide), List.append_nil]
theorem bytes_accF (h : Int) (S0 : ByteArray) (b : Bool) : bytesOf (accF h S0 b) = bytesOf S0 ++ fL h b := by
  unfold fL
  cases hb : bH h 4 with
  | true => rw [accF_t hb, bytes_append, if_pos rfl]; cases b <;> rfl
  | false => rw [accF_f hb, if_neg (by decide), List.append_nil]
theorem bytes_putS {k n N K : Int} {s t : ByteArray} {b : Bool} {T : Int} (hr : rightA k n N K s t b T = true) : bytesOf (putS k n N K s t b T) = putL k n N K s t b T := by
  obtain ⟨hk, _, _, hn, hN, hK, hT, _⟩ := rightA_all hr
  unfold putS putL
  rw [bytes_accT, bytes_accT]
  show bytesOf (accF _ _ _) ++ _ ++ _ = _
  rw [bytes_accF, bytes_accN _ _ _ hT.1, bytes_accN _ _ _ hK.1, bytes_accN _ _ _ hN.1, bytes_accN _ _ _ hn.1]
  have e : bytesOf (accN (hasB k) (headS k) (vN n N K T) 0) = [k] := by
    show bytesOf (headS k) = _
    unfold headS
    rw [show k % 256 = k by omega]
    exact bytes_son (By.cons (by omega) (by omega) By.nil)
  rw [e]
  simp only [vN, vT, List.append_assoc]
theorem stepN {h : Int} {s : ByteArray} {a : Int} {i p : Nat} {v : Int} {r : List Int} (he : errN h s a i = 0) (hp : posN h s a i = p) (h0 : 0 ≤ v) (h1 : v ≤ 1099511627776) (hb : bH h i = false → v = 0) (hd : (bytesOf s).drop p = eL h i v ++ r) :
    errN h s a (i + 1) = 0 ∧ posN h s a (i + 1) = ((p + (eL h i v).length : Nat) : Int) ∧ valN h s a i 0 = v ∧ (bytesOf s).drop (p + (eL h i v).length) = r := by
  refine ⟨?_, ?_, ?_, drop_step hd⟩
  all_goals cases hh : bH h i with
    | true =>
      rw [show eL h i v = enc v from if_pos hh] at *
      have hg := getS_enc h0 (by omega) hd
      first
        | (rw [errN_t he hh, hp, hg])
        | (rw [posN_t hh, hp, hg])
        | (rw [valN_t hh, hp, hg]; exact if_neg (by simp only []; omega))
    | false =>
      rw [show eL h i v = [] from if_neg (by rw [hh]; decide)] at *
      first
        | (rw [errN_f he hh])
        | (rw [posN_f hh, hp]; rfl)
        | (rw [valN_f hh, hb hh])
theorem stepT {h : Int} {s : ByteArray} {a : Int} {i p : Nat} {x : ByteArray} {r : List Int} (he : errT h s a i = 0) (hp : posT h s a i = p) (hx : x.size ≤ 65536) (hb : bH h (5 + i) = false → x = ⟨#[]⟩) (hd : (bytesOf s).drop p = xL h (5 + i) x ++ r) :
    errT h s a (i + 1) = 0 ∧ posT h s a (i + 1) = ((p + (xL h (5 + i) x).length : Nat) : Int) ∧ valT h s a i ⟨#[]⟩ = x ∧ (bytesOf s).drop (p + (xL h (5 + i) x).length) = r := by
  refine ⟨?_, ?_, ?_, drop_step hd⟩
  all_goals cases hh : bH h (5 + i) with
    | true =>
      rw [show xL h (5 + i) x = tL x from if_pos hh] at *
      have hg := cutS_enc hx hd
      first
        | (rw [errT_t he hh, hp, hg])
        | (rw [posT_t hh, hp, hg])
        | (rw [valT_t hh, hp, hg])
    | false =>
      rw [show xL h (5 + i) x = [] from if_neg (by rw [hh]; decide)] at *
      first
        | (rw [errT_f he hh])
        | (rw [posT_f hh, hp]; rfl)
        | (rw [valT_f hh, hb hh])
theorem bt_drop {s : ByteArray} {p : Nat} {c : Int} {r : List Int} (hd : (bytesOf s).drop p = [c] ++ r) : p < s.size ∧ bt s p = c := by
  have hz := congrArg List.length hd
  rw [List.length_drop, size_bytes] at hz
  simp only [List.length_append, List.length_singleton] at hz
  have hp : p < s.size := by omega
  refine ⟨hp, ?_⟩
  rw [VF.drop_cons hp] at hd
  exact (List.cons.inj hd).1
theorem stepF {h : Int} {s : ByteArray} {p : Nat} {b : Bool} {r : List Int} (hb : bH h 4 = false → b = false) (hd : (bytesOf s).drop p = fL h b ++ r) :
    errF h s p = 0 ∧ posF h p = ((p + (fL h b).length : Nat) : Int) ∧ valF h s p false = b ∧ (bytesOf s).drop (p + (fL h b).length) = r := by
  refine ⟨?_, ?_, ?_, drop_step hd⟩
  all_goals cases hh : bH h 4 with
    | true =>
      rw [show fL h b = [if b = true then 1 else 0] from if_pos hh] at *
      obtain ⟨h1, h2⟩ := bt_drop hd
      first
        | (unfold errF; rw [if_pos hh, if_neg (by omega), h2]; cases b <;> rfl)
        | (unfold posF; rw [if_pos hh]; rfl)
        | (unfold valF; rw [if_pos hh, h2]; cases b <;> rfl)
    | false =>
      rw [show fL h b = [] from if_neg (by rw [hh]; decide)] at *
      first
        | (unfold errF; rw [if_neg (by rw [hh]; decide)])
        | (unfold posF; rw [if_neg (by rw [hh]; decide)]; rfl)
        | (unfold valF; rw [if_neg (by rw [hh]; decide), hb hh])
theorem empt_nil {s : ByteArray} (h : empt s = true) : s = ⟨#[]⟩ := by
  unfold empt at h
  rw [decide_eq_true_eq] at h
  apply ByteArray.ext
  exact Array.eq_empty_of_size_eq_zero h
theorem bare_zero {h n N K : Int} {s t : ByteArray} {b : Bool} {T : Int} (hb : bareP h n N K s t b T = true) : (bH h 0 = false → n = 0) ∧ (bH h 1 = false → N = 0) ∧ (bH h 2 = false → K = 0) ∧ (bH h 3 = false → T = 0) ∧ (bH h 4 = false → b = false) ∧ (bH h 5 = false → s = ⟨#[]⟩) ∧ (bH h 6 = false → t = ⟨#[]⟩) := by
  unfold bareP at hb
  simp only [Bool.and_eq_true, Bool.or_eq_true, beq_iff_eq, Bool.not_eq_true'] at hb
  obtain ⟨h0, h1, h2, h5, h6, h4, h3⟩ := hb
  refine ⟨fun g => ?_, fun g => ?_, fun g => ?_, fun g => ?_, fun g => ?_, fun g => ?_, fun g => ?_⟩
  · simpa [g] using h0
  · simpa [g] using h1
  · simpa [g] using h2
  · simpa [g] using h3
  · simpa [g] using h4
  · exact empt_nil (by simpa [g] using h5)
  · exact empt_nil (by simpa [g] using h6)
theorem getA_put {s : ByteArray} {p : Nat} {k n N K : Int} {x y : ByteArray} {b : Bool} {T : Int} {r : List Int} (hr : rightA k n N K x y b T = true) (hx : x.size ≤ 65536) (hd : (bytesOf s).drop p = putL k n N K x y b T ++ r) :
    getA s p = (k, n, N, K, x, y, b, T, ((p + (putL k n N K x y b T).length : Nat) : Int), 0) := by
  obtain ⟨hk, hbare, _, hn, hN, hK, hT, hy⟩ := rightA_all hr
  obtain ⟨z0, z1, z2, z3, z4, z5, z6⟩ := bare_zero hbare
  unfold putL at hd ⊢
  simp only [List.append_assoc] at hd
  obtain ⟨hp, hc⟩ := bt_drop hd
  have d0 := drop_step hd
  rw [List.length_singleton] at d0
  obtain ⟨e1, p1, v0, d1⟩ := stepN (a := ((p + 1 : Nat) : Int)) (i := 0) rfl rfl hn.1 (by omega) z0 d0
  obtain ⟨e2, p2, v1, d2⟩ := stepN (i := 1) e1 p1 hN.1 hN.2 z1 d1
  obtain ⟨e3, p3, v2, d3⟩ := stepN (i := 2) e2 p2 hK.1 hK.2 z2 d2
  obtain ⟨e4, p4, v3, d4⟩ := stepN (i := 3) e3 p3 hT.1 (by omega) z3 d3
  obtain ⟨eF, pF, vF, d5⟩ := stepF z4 d4
  rw [← p4] at eF pF vF
  obtain ⟨eT1, pT1, w0, d6⟩ := stepT (a := posF (hasB k) (posN (hasB k) s ((p + 1 : Nat) : Int) 4)) (i := 0) rfl pF hx z5 d5
  obtain ⟨eT2, pT2, w1, d7⟩ := stepT (i := 1) eT1 pT1 (by omega) z6 (r := r) d6
  simp only [show 3 + 1 = 4 from rfl, show 1 + 1 = 2 from rfl] at e4 eF vF w0 w1 eT2 pT2
  unfold getA
  rw [if_neg (by omega), if_neg (by omega), hc, if_neg (by omega)]
  rw [show ((p : Nat) : Int) + 1 = ((p + 1 : Nat) : Int) by omega]
  unfold getK
  rw [if_pos e4]
  unfold getK2
  rw [if_pos eF]
  unfold getK3
  rw [if_pos eT2, v0, v1, v2, v3, vF, w0, w1]
  unfold getK4
  rw [if_pos hr, pT2]
  simp only [List.length_append, List.length_singleton, Nat.add_assoc]
theorem take_past {a r : List Int} {j : Nat} (h : a.length ≤ j) : (a ++ r).take j = a ++ r.take (j - a.length) := by rw [List.take_append, List.take_of_length_le h]
theorem getS_cut {s : ByteArray} {p j : Nat} {n : Int} {r : List Int} (h0 : 0 ≤ n) (hp : p ≤ s.size) (h : (bytesOf s).drop p = (enc n ++ r).take j) (hj : j < (enc n).length) : VF.getS s p = (0, 0, 3) := by
  rw [enc_length] at hj
  unfold VF.getS
  rw [if_neg (by omega), Int.toNat_natCast, h, List.take_append_of_le_length (by rw [enc_length]; omega), dec_short h0 hj]
  rfl
theorem cutS_cut {s x : ByteArray} {p j : Nat} {r : List Int} (hx : x.size ≤ 65536) (hp : p ≤ s.size) (h : (bytesOf s).drop p = (tL x ++ r).take j) (hj : j < (tL x).length) : (VF.cutS s p).2.2 = 3 := by
  rw [tL_length] at hj
  unfold tL at h
  by_cases g : j < sz x.size
  · unfold VF.cutS
    rw [getS_cut (n := x.size) (r := bytesOf x ++ r) (by omega) hp (h.trans (by rw [List.append_assoc])) (by rw [enc_length]; exact g)]
    rfl
  · have h2 : (bytesOf s).drop p = enc x.size ++ (bytesOf x ++ r).take (j - (enc x.size).length) := h.trans (by rw [List.append_assoc, take_past (by rw [enc_length]; omega)])
    have hz := congrArg List.length h
    rw [List.length_drop, size_bytes, List.length_take, List.length_append, List.length_append, enc_length, size_bytes] at hz
    unfold VF.cutS
    rw [getS_enc (by omega) (by omega) h2, enc_length]
    simp only []
    rw [if_pos trivial, if_neg (by omega), if_pos (by omega)]
theorem past_size {s : ByteArray} {p : Nat} {a r : List Int} (hz : p ≤ s.size) (h : (bytesOf s).drop p = a ++ r) : p + a.length ≤ s.size := (Seg.of hz h).2
theorem shortN {h : Int} {s : ByteArray} {a : Int} {i p j : Nat} {v : Int} {r : List Int} (he : errN h s a i = 0) (hp : posN h s a i = p) (hz : p ≤ s.size) (h0 : 0 ≤ v) (h1 : v ≤ 1099511627776) (hb : bH h i = false → v = 0) (hd : (bytesOf s).drop p = (eL h i v ++ r).take j) :
    (j < (eL h i v).length ∧ errN h s a (i + 1) = 3) ∨ ((eL h i v).length ≤ j ∧ errN h s a (i + 1) = 0 ∧ posN h s a (i + 1) = ((p + (eL h i v).length : Nat) : Int) ∧ (bytesOf s).drop (p + (eL h i v).length) = r.take (j - (eL h i v).length) ∧ p + (eL h i v).length ≤ s.size) := by
  by_cases hj : j < (eL h i v).length
  · refine .inl ⟨hj, ?_⟩
    cases hh : bH h i with
    | true =>
      rw [show eL h i v = enc v from if_pos hh] at hd hj
      rw [errN_t he hh, hp, getS_cut h0 hz hd hj]
    | false =>
      rw [show eL h i v = [] from if_neg (by rw [hh]; decide)] at hj
      exact absurd hj (by simp)
  · have h2 := hd.trans (take_past (by omega))
    obtain ⟨e1, e2, _, e4⟩ := stepN he hp h0 h1 hb h2
    exact .inr ⟨by omega, e1, e2, e4, past_size hz h2⟩
theorem shortT {h : Int} {s : ByteArray} {a : Int} {i p j : Nat} {x : ByteArray} {r : List Int} (he : errT h s a i = 0) (hp : posT h s a i = p) (hz : p ≤ s.size) (hx : x.size ≤ 65536) (hb : bH h (5 + i) = false → x = ⟨#[]⟩) (hd : (bytesOf s).drop p = (xL h (5 + i) x ++ r).take j) :
    (j < (xL h (5 + i) x).length ∧ errT h s a (i + 1) = 3) ∨ ((xL h (5 + i) x).length ≤ j ∧ errT h s a (i + 1) = 0 ∧ posT h s a (i + 1) = ((p + (xL h (5 + i) x).length : Nat) : Int) ∧ (bytesOf s).drop (p + (xL h (5 + i) x).length) = r.take (j - (xL h (5 + i) x).length) ∧ p + (xL h (5 + i) x).length ≤ s.size) := by
  by_cases hj : j < (xL h (5 + i) x).length
  · refine .inl ⟨hj, ?_⟩
    cases hh : bH h (5 + i) with
    | true =>
      rw [show xL h (5 + i) x = tL x from if_pos hh] at hd hj
      rw [errT_t he hh, hp, cutS_cut hx hz hd hj]
    | false =>
      rw [show xL h (5 + i) x = [] from if_neg (by rw [hh]; decide)] at hj
      exact absurd hj (by simp)
  · have h2 := hd.trans (take_past (by omega))
    obtain ⟨e1, e2, _, e4⟩ := stepT he hp hx hb h2
    exact .inr ⟨by omega, e1, e2, e4, past_size hz h2⟩
theorem shortF {h : Int} {s : ByteArray} {p j : Nat} {b : Bool} {r : List Int} (hz : p ≤ s.size) (hb : bH h 4 = false → b = false) (hd : (bytesOf s).drop p = (fL h b ++ r).take j) :
    (j < (fL h b).length ∧ errF h s p = 3) ∨ ((fL h b).length ≤ j ∧ errF h s p = 0 ∧ posF h p = ((p + (fL h b).length : Nat) : Int) ∧ (bytesOf s).drop (p + (fL h b).length) = r.take (j - (fL h b).length) ∧ p + (fL h b).length ≤ s.size) := by
  by_cases hj : j < (fL h b).length
  · refine .inl ⟨hj, ?_⟩
    cases hh : bH h 4 with
    | true =>
      rw [show fL h b = [if b = true then 1 else 0] from if_pos hh] at hd hj
      obtain rfl : j = 0 := by simpa using hj
      have hl := congrArg List.length hd
      rw [List.length_drop, size_bytes, List.take_zero, List.length_nil] at hl
      unfold errF
      rw [if_pos hh, if_pos (by omega)]
    | false =>
      rw [show fL h b = [] from if_neg (by rw [hh]; decide)] at hj
      exact absurd hj (by simp)
  · have h2 := hd.trans (take_past (by omega))
    obtain ⟨e1, e2, _, e4⟩ := stepF hb h2
    exact .inr ⟨by omega, e1, e2, e4, past_size hz h2⟩
theorem z10 (e : Int) : (zero10 e).2.2.2.2.2.2.2.2.2 = e := rfl
theorem getA_short {s : ByteArray} {p j : Nat} {k n N K : Int} {x y : ByteArray} {b : Bool} {T : Int} (hr : rightA k n N K x y b T = true) (hx : x.size ≤ 65536) (hz : p ≤ s.size) (hj : j < (putL k n N K x y b T).length) (hd : (bytesOf s).drop p = (putL k n N K x y b T).take j) :
    (getA s p).2.2.2.2.2.2.2.2.2 = 3 := by
  obtain ⟨hk, hbare, _, hn, hN, hK, hT, hy⟩ := rightA_all hr
  obtain ⟨z0, z1, z2, z3, z4, z5, z6⟩ := bare_zero hbare
  unfold putL at hd hj
  cases j with
  | zero =>
    have hl := congrArg List.length hd
    rw [List.length_drop, size_bytes, List.take_zero, List.length_nil] at hl
    unfold getA
    rw [if_neg (by omega), if_pos (by omega), z10]
  | succ j =>
    simp only [List.length_append, List.length_singleton] at hj
    rw [List.singleton_append, List.take_succ_cons] at hd
    obtain ⟨hp, hc⟩ := bt_drop (r := _) (hd.trans List.singleton_append.symm)
    have d0 := drop_step (hd.trans List.singleton_append.symm)
    rw [List.length_singleton] at d0
    unfold getA
    rw [if_neg (by omega), if_neg (by omega), hc, if_neg (by omega)]
    rw [show ((p : Nat) : Int) + 1 = ((p + 1 : Nat) : Int) by omega]
    have no : errN (hasB k) s ((p + 1 : Nat) : Int) 4 = 3 → (getK k s ((p + 1 : Nat) : Int)).2.2.2.2.2.2.2.2.2 = 3 := fun e => by
      unfold getK
      rw [if_neg (by rw [e]; decide), z10, e]
    have up : ∀ i, i ≤ 4 → errN (hasB k) s ((p + 1 : Nat) : Int) i = 3 → errN (hasB k) s ((p + 1 : Nat) : Int) 4 = 3 := fun i hi e => by
      have := errN_no (show errN (hasB k) s ((p + 1 : Nat) : Int) i ≠ 0 by rw [e]; decide) (4 - i)
      rw [show i + (4 - i) = 4 by omega] at this
      rw [this, e]
    rcases shortN (a := ((p + 1 : Nat) : Int)) (i := 0) rfl rfl (by omega) hn.1 (by omega) z0 d0 with ⟨_, e1⟩ | ⟨g1, e1, p1, d1, l1⟩
    · exact no (up 1 (by omega) e1)
    rcases shortN (i := 1) e1 p1 l1 hN.1 hN.2 z1 d1 with ⟨_, e2⟩ | ⟨g2, e2, p2, d2, l2⟩
    · exact no (up 2 (by omega) e2)
    rcases shortN (i := 2) e2 p2 l2 hK.1 hK.2 z2 d2 with ⟨_, e3⟩ | ⟨g3, e3, p3, d3, l3⟩
    · exact no (up 3 (by omega) e3)
    rcases shortN (i := 3) e3 p3 l3 hT.1 (by omega) z3 d3 with ⟨_, e4⟩ | ⟨g4, e4, p4, d4, l4⟩
    · exact no e4
    simp only [show 3 + 1 = 4 from rfl] at e4 p4
    unfold getK
    rw [if_pos e4, p4]
    unfold getK2
    rcases shortF l4 z4 d4 with ⟨_, e5⟩ | ⟨g5, e5, p5, d5, l5⟩
    · rw [if_neg (by rw [e5]; decide), z10, e5]
    rw [if_pos e5, p5]
    unfold getK3
    rcases shortT (a := ((_ : Nat) : Int)) (i := 0) rfl rfl l5 hx z5 d5 with ⟨_, e6⟩ | ⟨g6, e6, p6, d6, l6⟩
    · have := errT_no (show errT (hasB k) s _ 1 ≠ 0 by rw [e6]; decide) 1
      rw [if_neg (by rw [this, e6]; decide), z10, this, e6]
    rw [show xL (hasB k) 6 y = xL (hasB k) 6 y ++ [] by simp] at d6
    rcases shortT (i := 1) e6 p6 l6 (by omega) z6 d6 with ⟨_, e7⟩ | ⟨g7, _⟩
    · simp only [show 1 + 1 = 2 from rfl] at e7
      rw [if_neg (by rw [e7]; decide), z10, e7]
    · simp only [show 5 + 0 = 5 from rfl, show 5 + 1 = 6 from rfl] at g6 g7
      omega
end Go.Proofs.YtjjimkmbbifbjaaDoor.SP
