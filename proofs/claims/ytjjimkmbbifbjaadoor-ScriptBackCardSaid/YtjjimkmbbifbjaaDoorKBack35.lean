import Derived.Test.YtjjimkmbbifbjaaDoorKBack23
namespace Go.Proofs.YtjjimkmbbifbjaaDoor.SP
open Go Go.RowKit Go.Proofs.YtjjimkmbbifbjaaDoor Go.Proofs.YtjjimkmbbifbjaaDoor.SW Go.Proofs.YtjjimkmbbifbjaaDoor.VP Go.Proofs.YtjjimkmbbifbjaaDoor.VF Go.Proofs.YtjjimkmbbifbjaaDoor.TP Go.Proofs.YtjjimkmbbifbjaaDoorW.PrintWords
theorem drop_step {L a b : List Int} {p : Nat} (h : L.drop p = a ++ b) : L.drop (p + a.length) = b := by
  rw [← List.drop_drop, h, List.drop_left]
theorem le_size {s : ByteArray} {p : Nat} {a : List Int} (h : (bytesOf s).drop p = a) (ha : a ≠ []) : p + a.length = s.size := by
  have := congrArg List.length h
  rw [List.length_drop, size_bytes] at this
  have : 0 < a.length := List.length_pos_iff.2 ha
  omega
theorem enc_ne (n : Int) : enc n ≠ [] := fun h => by
  have := enc_length n
  rw [h] at this
  have := sz_bd n
  simp at *
  omega
theorem getS_enc {s : ByteArray} {p : Nat} {n : Int} {r : List Int} (h0 : 0 ≤ n) (h1 : n ≤ 18446744073709551615) (h : (bytesOf s).drop p = enc n ++ r) : VF.getS s p = (n, ((p + (enc n).length : Nat) : Int), 0) := by
  have hz := le_size h (fun g => enc_ne n (List.append_eq_nil_iff.1 g).1)
  rw [enc_length]
  unfold VF.getS
  rw [if_neg (by omega), Int.toNat_natCast, h, dec_enc h0 h1, if_pos rfl]
  simp
def tL (x : ByteArray) : List Int := enc x.size ++ bytesOf x
theorem tL_length (x : ByteArray) : (tL x).length = sz x.size + x.size := by unfold tL; rw [List.length_append, enc_length, size_bytes]
theorem cutS_enc {s x : ByteArray} {p : Nat} {r : List Int} (hx : x.size ≤ 65536) (h : (bytesOf s).drop p = tL x ++ r) : VF.cutS s p = (x, ((p + (tL x).length : Nat) : Int), 0) := by
  rw [tL_length]
  unfold tL at h
  have hg := getS_enc (s := s) (p := p) (n := x.size) (r := bytesOf x ++ r) (by omega) (by omega) (by rw [h, List.append_assoc])
  have hz := le_size h (fun g => enc_ne x.size (List.append_eq_nil_iff.1 (List.append_eq_nil_iff.1 g).1).1)
  rw [List.length_append, List.length_append, enc_length, size_bytes] at hz
  rw [enc_length] at hg
  unfold VF.cutS
  rw [hg]
  simp only []
  rw [if_pos trivial, if_neg (by omega), if_neg (by omega)]
  have e : s.extract (((p + sz x.size : Nat) : Int)).toNat (((p + sz x.size : Nat) : Int) + (x.size : Int)).toNat = x := by
    apply bytes_inj
    rw [bytes_extract, Int.toNat_natCast, show (((p + sz x.size : Nat) : Int) + (x.size : Int)).toNat - (p + sz x.size) = x.size by omega]
    have := drop_step (a := enc x.size) (b := bytesOf x ++ r) (show (bytesOf s).drop p = enc x.size ++ (bytesOf x ++ r) by rw [h, List.append_assoc])
    rw [enc_length] at this
    rw [this, ← size_bytes x, List.take_left]
  rw [e, show (((p + sz x.size : Nat) : Int) + (x.size : Int)) = ((p + (sz x.size + x.size) : Nat) : Int) by omega]
def Seg (s : ByteArray) (p : Nat) (e : List Int) : Prop := e = ((bytesOf s).drop p).take e.length ∧ p + e.length ≤ s.size
theorem Seg.append {s : ByteArray} {p : Nat} {a b : List Int} (h : Seg s p a) (k : Seg s (p + a.length) b) : Seg s p (a ++ b) := by
  refine ⟨?_, by rw [List.length_append]; have := k.2; omega⟩
  have h1 := h.1
  have k1 := k.1
  rw [← List.drop_drop] at k1
  rw [List.length_append, List.take_add, ← h1, ← k1]
theorem Seg.nil {s : ByteArray} {p : Nat} (h : p ≤ s.size) : Seg s p [] := ⟨by simp, h⟩
theorem Seg.drop {s : ByteArray} {p : Nat} {a : List Int} (h : Seg s p a) : (bytesOf s).drop p = a ++ (bytesOf s).drop (p + a.length) := by
  have := List.take_append_drop a.length ((bytesOf s).drop p)
  rw [← h.1, List.drop_drop] at this
  exact this.symm
theorem Seg.of {s : ByteArray} {p : Nat} {a r : List Int} (hp : p ≤ s.size) (h : (bytesOf s).drop p = a ++ r) : Seg s p a := by
  refine ⟨by rw [h, List.take_left], ?_⟩
  have := congrArg List.length h
  rw [List.length_drop, size_bytes, List.length_append] at this
  omega
theorem getS_seg {s : ByteArray} {a : Int} (h : (getS s a).2.2 = 0) : ∃ p : Nat, a = p ∧ (getS s a).2.1 = ((p + (enc (getS s a).1).length : Nat) : Int) ∧ Seg s p (enc (getS s a).1) ∧ 0 ≤ (getS s a).1 := by
  rcases getS_cases s a with g | ⟨n, p, rfl, g, e, z, h0, h1⟩
  · exact absurd h g.1
  · rw [g]
    exact ⟨p, rfl, by rw [enc_length], ⟨by rw [enc_length]; exact e, by rw [enc_length]; exact z⟩, h0⟩
theorem cutS_seg {s : ByteArray} {a : Int} (hc : (cutS s a).2.2 = 0) : ∃ p : Nat, a = p ∧ (cutS s a).2.1 = ((p + (tL (cutS s a).1).length : Nat) : Int) ∧ Seg s p (tL (cutS s a).1) ∧ (cutS s a).1.size ≤ 65536 := by
  rcases getS_cases s a with g | ⟨n, p, rfl, g, e, z, h0, h1⟩
  · unfold VF.cutS at hc
    rw [if_neg g.1] at hc
    exact absurd hc g.1
  · unfold VF.cutS at hc ⊢
    rw [g] at hc ⊢
    simp only [] at hc ⊢
    rw [if_pos trivial] at hc ⊢
    by_cases g1 : n > 65536
    · rw [if_pos g1] at hc
      exact absurd hc (by decide)
    · rw [if_neg g1] at hc ⊢
      by_cases g2 : (s.size : Int) - ((p + sz n : Nat) : Int) < n
      · rw [if_pos g2] at hc
        exact absurd hc (by decide)
      · rw [if_neg g2]
        simp only []
        obtain ⟨k, rfl⟩ := Int.eq_ofNat_of_zero_le h0
        have hk : (s.extract (((p + sz k : Nat) : Int)).toNat ((((p + sz k : Nat) : Int)) + (k : Int)).toNat).size = k := by
          rw [ByteArray.size_extract]
          omega
        have hb : bytesOf (s.extract (((p + sz k : Nat) : Int)).toNat ((((p + sz k : Nat) : Int)) + (k : Int)).toNat) = ((bytesOf s).drop (p + sz k)).take k := by
          rw [bytes_extract, Int.toNat_natCast, show ((((p + sz k : Nat) : Int)) + (k : Int)).toNat - (p + sz k) = k by omega]
        refine ⟨p, rfl, ?_, ?_, by rw [hk]; omega⟩
        · rw [tL_length, hk]
          omega
        · unfold tL
          rw [hk]
          refine Seg.append ⟨by rw [enc_length]; exact e, by rw [enc_length]; exact z⟩ ?_
          rw [enc_length]
          refine ⟨?_, by rw [size_bytes, hk]; omega⟩
          rw [size_bytes, hk]
          exact hb
def eL (h : Int) (i : Nat) (v : Int) : List Int := if bH h i = true then enc v else []
def fL (h : Int) (b : Bool) : List Int := if bH h 4 = true then [if b = true then 1 else 0] else []
def xL (h : Int) (i : Nat) (x : ByteArray) : List Int := if bH h i = true then tL x else []
def putL (k n N K : Int) (s t : ByteArray) (b : Bool) (T : Int) : List Int :=
  [k] ++ (eL (hasB k) 0 n ++ (eL (hasB k) 1 N ++ (eL (hasB k) 2 K ++ (eL (hasB k) 3 T ++ (fL (hasB k) b ++ (xL (hasB k) 5 s ++ xL (hasB k) 6 t))))))
theorem bytes_accN (h : Int) (S0 : ByteArray) (v : Nat → Int) {i : Nat} (h0 : 0 ≤ v i) : bytesOf (accN h S0 v (i + 1)) = bytesOf (accN h S0 v i) ++ eL h i (v i) := by
  unfold eL
  cases hb : bH h i with
  | true => rw [accN_t hb, bytes_append, bytes_son (enc_by h0), if_pos rfl]
  | false => rw [accN_f hb, if_neg (by decide), List.append_nil]
theorem bytes_accT (h : Int) (S0 : ByteArray) (v : Nat → ByteArray) (i : Nat) : bytesOf (accT h S0 v (i + 1)) = bytesOf (accT h S0 v i) ++ xL h (5 + i) (v i) := by
  unfold xL tL
  cases hb : bH h (5 + i) with
  | true => rw [accT_t hb, bytes_append, bytes_append, bytes_son (enc_by (by omega)), if_pos rfl]
  | false => rw [accT_f hb, if_neg (by decide), List.append_nil]
theorem bytes_accF (h : Int) (S0 : ByteArray) (b : Bool) : bytesOf (accF h S0 b) = bytesOf S0 ++ fL h b := by
  unfold fL
  cases hb : bH h 4 with
  | true => rw [accF_t hb, bytes_append, if_pos rfl]; cases b <;> rfl
  | false => rw [accF_f hb, if_neg (by decide), List.append_nil]
theorem bytes_putS {k n N K : Int} {s t : ByteArray} {b : Bool} {T : Int} (hr : rightA k n N K s t b T = true) : bytesOf (putS k n N K s t b T) = putL k n N K s t b T := by
  obtain ⟨hk, _, _, hn, hN, hK, hT, _⟩ := rightA_all hr
  unfold putS putL
  rw [bytes_accT, bytes_accT]
  show bytesOf (accF _ _ _) ++ _ ++ _ = _
  rw [bytes_accF, bytes_accN _ _ _ hT.1, bytes_accN _ _ _ hK.1, bytes_accN _ _ _ hN.1, bytes_accN _ _ _ hn.1]
  have e : bytesOf (accN (hasB k) (headS k) (vN n N K T) 0) = [k] := by
    show bytesOf (headS k) = _
    unfold headS
    rw [show k % 256 = k by omega]
    exact bytes_son (By.cons (by omega) (by omega) By.nil)
  rw [e]
  simp only [vN, vT, List.append_assoc]
theorem stepN {h : Int} {s : ByteArray} {a : Int} {i p : Nat} {v : Int} {r : List Int} (he : errN h s a i = 0) (hp : posN h s a i = p) (h0 : 0 ≤ v) (h1 : v ≤ 1099511627776) (hb : bH h i = false → v = 0) (hd : (bytesOf s).drop p = eL h i v ++ r) :
    errN h s a (i + 1) = 0 ∧ posN h s a (i + 1) = ((p + (eL h i v).length : Nat) : Int) ∧ valN h s a i 0 = v ∧ (bytesOf s).drop (p + (eL h i v).length) = r := by
  refine ⟨?_, ?_, ?_, drop_step hd⟩
  all_goals cases hh : bH h i with
    | true =>
      rw [show eL h i v = enc v from if_pos hh] at *
      have hg := getS_enc h0 (by omega) hd
      first
        | (rw [errN_t he hh, hp, hg])
        | (rw [posN_t hh, hp, hg])
        | (rw [valN_t hh, hp, hg]; exact if_neg (by simp only []; omega))
    | false =>
      rw [show eL h i v = [] from if_neg (by rw [hh]; decide)] at *
      first
        | (rw [errN_f he hh])
        | (rw [posN_f hh, hp]; rfl)
        | (rw [valN_f hh, hb hh])
theorem stepT {h : Int} {s : ByteArray} {a : Int} {i p : Nat} {x : ByteArray} {r : List Int} (he : errT h s a i = 0) (hp : posT h s a i = p) (hx : x.size ≤ 65536) (hb : bH h (5 + i) = false → x = ⟨#[]⟩) (hd : (bytesOf s).drop p = xL h (5 + i) x ++ r) :
    errT h s a (i + 1) = 0 ∧ posT h s a (i + 1) = ((p + (xL h (5 + i) x).length : Nat) : Int) ∧ valT h s a i ⟨#[]⟩ = x ∧ (bytesOf s).drop (p + (xL h (5 + i) x).length) = r := by
  refine ⟨?_, ?_, ?_, drop_step hd⟩
  all_goals cases hh : bH h (5 + i) with
    | true =>
      rw [show xL h (5 + i) x = tL x from if_pos hh] at *
      have hg := cutS_enc hx hd
      first
        | (rw [errT_t he hh, hp, hg])
        | (rw [posT_t hh, hp, hg])
        | (rw [valT_t hh, hp, hg])
    | false =>
      rw [show xL h (5 + i) x = [] from if_neg (by rw [hh]; decide)] at *
      first
        | (rw [errT_f he hh])
        | (rw [posT_f hh, hp]; rfl)
        | (rw [valT_f hh, hb hh])
theorem bt_drop {s : ByteArray} {p : Nat} {c : Int} {r : List Int} (hd : (bytesOf s).drop p = [c] ++ r) : p < s.size ∧ bt s p = c := by
  have hz := congrArg List.length hd
  rw [List.length_drop, size_bytes] at hz
  simp only [List.length_append, List.length_singleton] at hz
  have hp : p < s.size := by omega
  refine ⟨hp, ?_⟩
  rw [VF.drop_cons hp] at hd
  exact (List.cons.inj hd).1
theorem stepF {h : Int} {s : ByteArray} {p : Nat} {b : Bool} {r : List Int} (hb : bH h 4 = false → b = false) (hd : (bytesOf s).drop p = fL h b ++ r) :
    errF h s p = 0 ∧ posF h p = ((p + (fL h b).length : Nat) : Int) ∧ valF h s p false = b ∧ (bytesOf s).drop (p + (fL h b).length) = r := by
  refine ⟨?_, ?_, ?_, drop_step hd⟩
  all_goals cases hh : bH h 4 with
    | true =>
      rw [show fL h b = [if b = true then 1 else 0] from if_pos hh] at *
      obtain ⟨h1, h2⟩ := bt_drop hd
      first
        | (unfold errF; rw [if_pos hh, if_neg (by omega), h2]; cases b <;> rfl)
        | (unfold posF; rw [if_pos hh]; rfl)
        | (unfold valF; rw [if_pos hh, h2]; cases b <;> rfl)
    | false =>
      rw [show fL h b = [] from if_neg (by rw [hh]; decide)] at *
      first
        | (unfold errF; rw [if_neg (by rw [hh]; decide)])
        | (unfold posF; rw [if_neg (by rw [hh]; decide)]; rfl)
        | (unfold valF; rw [if_neg (by rw [hh]; decide), hb hh])
theorem empt_nil {s : ByteArray} (h : empt s = true) : s = ⟨#[]⟩ := by
  unfold empt at h
  rw [decide_eq_true_eq] at h
  apply ByteArray.ext
  exact Array.eq_empty_of_size_eq_zero h
theorem bare_zero {h n N K : Int} {s t : ByteArray} {b : Bool} {T : Int} (hb : bareP h n N K s t b T = true) : (bH h 0 = false → n = 0) ∧ (bH h 1 = false → N = 0) ∧ (bH h 2 = false → K = 0) ∧ (bH h 3 = false → T = 0) ∧ (bH h 4 = false → b = false) ∧ (bH h 5 = false → s = ⟨#[]⟩) ∧ (bH h 6 = false → t = ⟨#[]⟩) := by
  unfold bareP at hb
  simp only [Bool.and_eq_true, Bool.or_eq_true, beq_iff_eq, Bool.not_eq_true'] at hb
  obtain ⟨h0, h1, h2, h5, h6, h4, h3⟩ := hb
  refine ⟨fun g => ?_, fun g => ?_, fun g => ?_, fun g => ?_, fun g => ?_, fun g => ?_, fun g => ?_⟩
  · simpa [g] using h0
  · simpa [g] using h1
  · simpa [g] using h2
  · simpa [g] using h3
  · simpa [g] using h4
  · exact empt_nil (by simpa [g] using h5)
  · exact empt_nil (by simpa [g] using h6)
theorem getA_put {s : ByteArray} {p : Nat} {k n N K : Int} {x y : ByteArray} {b : Bool} {T : Int} {r : List Int} (hr : rightA k n N K x y b T = true) (hx : x.size ≤ 65536) (hd : (bytesOf s).drop p = putL k n N K x y b T ++ r) :
    getA s p = (k, n, N, K, x, y, b, T, ((p + (putL k n N K x y b T).length : Nat) : Int), 0) := by
  obtain ⟨hk, hbare, _, hn, hN, hK, hT, hy⟩ := rightA_all hr
  obtain ⟨z0, z1, z2, z3, z4, z5, z6⟩ := bare_zero hbare
  unfold putL at hd ⊢
  simp only [List.append_assoc] at hd
  obtain ⟨hp, hc⟩ := bt_drop hd
  have d0 := drop_step hd
  rw [List.length_singleton] at d0
  obtain ⟨e1, p1, v0, d1⟩ := stepN (a := ((p + 1 : Nat) : Int)) (i := 0) rfl rfl hn.1 (by omega) z0 d0
  obtain ⟨e2, p2, v1, d2⟩ := stepN (i := 1) e1 p1 hN.1 hN.2 z1 d1
  obtain ⟨e3, p3, v2, d3⟩ := stepN (i := 2) e2 p2 hK.1 hK.2 z2 d2
  obtain ⟨e4, p4, v3, d4⟩ := stepN (i := 3) e3 p3 hT.1 (by omega) z3 d3
  obtain ⟨eF, pF, vF, d5⟩ := stepF z4 d4
  rw [← p4] at eF pF vF
  obtain ⟨eT1, pT1, w0, d6⟩ := stepT (a := posF (hasB k) (posN (hasB k) s ((p + 1 : Nat) : Int) 4)) (i := 0) rfl pF hx z5 d5
  obtain ⟨eT2, pT2, w1, d7⟩ := stepT (i := 1) eT1 pT1 (by omega) z6 (r := r) d6
  simp only [show 3 + 1 = 4 from rfl, show 1 + 1 = 2 from rfl] at e4 eF vF w0 w1 eT2 pT2
  unfold getA
  rw [if_neg (by omega), if_neg (by omega), hc, if_neg (by omega)]
  rw [show ((p : Nat) : Int) + 1 = ((p + 1 : Nat) : Int) by omega]
  unfold getK
  rw [if_pos e4]
  unfold getK2
  rw [if_pos eF]
  unfold getK3
  rw [if_pos eT2, v0, v1, v2, v3, vF, w0, w1]
  unfold getK4
  rw [if_pos hr, pT2]
  simp only [List.length_append, List.length_singleton, Nat.add_assoc]
theorem invN {h : Int} {s : ByteArray} {a : Int} {i p : Nat} (hp : posN h s a i = p) (hz : p ≤ s.size) (he : errN h s a (i + 1) = 0) (hv : valN h s a i 0 ≤ 1099511627776) :
    posN h s a (i + 1) = ((p + (eL h i (valN h s a i 0)).length : Nat) : Int) ∧ Seg s p (eL h i (valN h s a i 0)) := by
  have h0 : errN h s a i = 0 := by
    by_cases g : errN h s a i = 0
    · exact g
    · rw [errN_no g 1] at he; exact absurd he g
  cases hh : bH h i with
  | true =>
    rw [errN_t h0 hh] at he
    rw [valN_t hh] at hv
    obtain ⟨q, e1, e2, e3, e4⟩ := getS_seg he
    rw [hp] at e1
    have e1' := Int.ofNat.inj e1
    subst e1'
    have ht : top1 (getS s (posN h s a i)).1 = (getS s (posN h s a i)).1 := by
      unfold top1 at hv ⊢
      by_cases g : 1099511627777 ≤ (getS s (posN h s a i)).1
      · rw [if_pos g] at hv; omega
      · rw [if_neg g]
    rw [valN_t hh, ht, posN_t hh, show eL h i (getS s (posN h s a i)).1 = enc (getS s (posN h s a i)).1 from if_pos hh]
    exact ⟨e2, e3⟩
  | false =>
    rw [show eL h i (valN h s a i 0) = [] from if_neg (by rw [hh]; decide), posN_f hh, hp]
    exact ⟨rfl, Seg.nil hz⟩
theorem invT {h : Int} {s : ByteArray} {a : Int} {i p : Nat} (hp : posT h s a i = p) (hz : p ≤ s.size) (he : errT h s a (i + 1) = 0) :
    posT h s a (i + 1) = ((p + (xL h (5 + i) (valT h s a i ⟨#[]⟩)).length : Nat) : Int) ∧ Seg s p (xL h (5 + i) (valT h s a i ⟨#[]⟩)) ∧ (valT h s a i ⟨#[]⟩).size ≤ 65536 := by
  have h0 : errT h s a i = 0 := by
    by_cases g : errT h s a i = 0
    · exact g
    · rw [errT_no g 1] at he; exact absurd he g
  cases hh : bH h (5 + i) with
  | true =>
    rw [errT_t h0 hh] at he
    obtain ⟨q, e1, e2, e3, e4⟩ := cutS_seg he
    rw [hp] at e1
    have e1' := Int.ofNat.inj e1
    subst e1'
    rw [valT_t hh, posT_t hh, show xL h (5 + i) (cutS s (posT h s a i)).1 = tL (cutS s (posT h s a i)).1 from if_pos hh]
    exact ⟨e2, e3, e4⟩
  | false =>
    rw [valT_f hh, show xL h (5 + i) ⟨#[]⟩ = [] from if_neg (by rw [hh]; decide), posT_f hh, hp]
    exact ⟨rfl, Seg.nil hz, Nat.zero_le _⟩
theorem invF {h : Int} {s : ByteArray} {p : Nat} (hz : p ≤ s.size) (he : errF h s p = 0) :
    posF h p = ((p + (fL h (valF h s p false)).length : Nat) : Int) ∧ Seg s p (fL h (valF h s p false)) := by
  cases hh : bH h 4 with
  | true =>
    unfold errF at he
    rw [if_pos hh] at he
    by_cases g : (s.size : Int) ≤ p
    · rw [if_pos g] at he; exact absurd he (by decide)
    rw [if_neg g] at he
    by_cases g2 : 1 < bt s p
    · rw [if_pos g2] at he; exact absurd he (by decide)
    have hb := bt_bd s p
    have hd := VF.drop_cons (s := s) (p := p) (by omega)
    unfold posF valF fL
    rw [if_pos hh, if_pos hh, if_pos hh]
    refine ⟨rfl, Seg.of hz (r := (bytesOf s).drop (p + 1)) ?_⟩
    rw [hd]
    rcases (show bt s p = 0 ∨ bt s p = 1 by omega) with e | e <;> rw [e] <;> rfl
  | false =>
    unfold posF valF fL
    rw [if_neg (by rw [hh]; decide), if_neg (by rw [hh]; decide)]
    exact ⟨rfl, Seg.nil hz⟩
theorem getA_zero {s : ByteArray} {a : Int} (h : (getA s a).2.2.2.2.2.2.2.2.2 = 0) : ∃ (p : Nat) (k n N K : Int) (x y : ByteArray) (b : Bool) (T : Int), a = p ∧ getA s a = (k, n, N, K, x, y, b, T, ((p + (putL k n N K x y b T).length : Nat) : Int), 0) ∧ rightA k n N K x y b T = true ∧ Seg s p (putL k n N K x y b T) ∧ x.size ≤ 65536 := by
  unfold getA at h ⊢
  by_cases h1 : a < 0 ∨ (s.size : Int) < a
  · rw [if_pos h1] at h; exact absurd h (show ¬ ((1 : Int) = 0) by decide)
  rw [if_neg h1] at h ⊢
  by_cases h2 : a = s.size
  · rw [if_pos h2] at h; exact absurd h (show ¬ ((3 : Int) = 0) by decide)
  rw [if_neg h2] at h ⊢
  by_cases h3 : 11 ≤ bt s a
  · rw [if_pos h3] at h; exact absurd h (show ¬ ((6 : Int) = 0) by decide)
  rw [if_neg h3] at h ⊢
  unfold getK at h ⊢
  by_cases e1 : errN (hasB (bt s a)) s (a + 1) 4 = 0
  rotate_left
  · rw [if_neg e1] at h; exact absurd h e1
  rw [if_pos e1] at h ⊢
  unfold getK2 at h ⊢
  by_cases e2 : errF (hasB (bt s a)) s (posN (hasB (bt s a)) s (a + 1) 4) = 0
  rotate_left
  · rw [if_neg e2] at h; exact absurd h e2
  rw [if_pos e2] at h ⊢
  unfold getK3 at h ⊢
  by_cases e3 : errT (hasB (bt s a)) s (posF (hasB (bt s a)) (posN (hasB (bt s a)) s (a + 1) 4)) 2 = 0
  rotate_left
  · rw [if_neg e3] at h; exact absurd h e3
  rw [if_pos e3] at h ⊢
  unfold getK4 at h ⊢
  split at h
  rotate_left
  · exact absurd h (show ¬ ((4 : Int) = 0) by decide)
  rename_i hr
  rw [if_pos hr]
  obtain ⟨p, rfl⟩ := Int.eq_ofNat_of_zero_le (show 0 ≤ a by omega)
  have hk := bt_bd s p
  have sg0 : Seg s p [bt s p] := Seg.of (r := (bytesOf s).drop (p + 1)) (by omega) (VF.drop_cons (by omega))
  rw [show ((p : Nat) : Int) + 1 = ((p + 1 : Nat) : Int) by omega] at *
  generalize hkk : bt s p = k at *
  obtain ⟨_, _, _, hn, hN, hK, hT, hy⟩ := rightA_all hr
  have E : ∀ i, i ≤ 4 → errN (hasB k) s ((p + 1 : Nat) : Int) i = 0 := by
    intro i hi
    by_cases g : errN (hasB k) s ((p + 1 : Nat) : Int) i = 0
    · exact g
    · have := errN_no g (4 - i)
      rw [show i + (4 - i) = 4 by omega, e1] at this
      exact absurd this.symm g
  obtain ⟨q1, s1⟩ := invN (i := 0) (p := p + 1) rfl (by omega) (E 1 (by omega)) (Int.le_trans hn.2 (by decide))
  obtain ⟨q2, s2⟩ := invN (i := 1) q1 s1.2 (E 2 (by omega)) hN.2
  obtain ⟨q3, s3⟩ := invN (i := 2) q2 s2.2 (E 3 (by omega)) hK.2
  obtain ⟨q4, s4⟩ := invN (i := 3) q3 s3.2 (E 4 (by omega)) (Int.le_trans hT.2 (by decide))
  simp only [show 3 + 1 = 4 from rfl] at q4
  rw [q4] at e2 e3 hr ⊢
  obtain ⟨qF, sF⟩ := invF s4.2 e2
  rw [qF] at e3 hr ⊢
  have eT1 : errT (hasB k) s ((p + 1 + (eL (hasB k) 0 (valN (hasB k) s ((p + 1 : Nat) : Int) 0 0)).length + (eL (hasB k) 1 (valN (hasB k) s ((p + 1 : Nat) : Int) 1 0)).length + (eL (hasB k) 2 (valN (hasB k) s ((p + 1 : Nat) : Int) 2 0)).length + (eL (hasB k) 3 (valN (hasB k) s ((p + 1 : Nat) : Int) 3 0)).length + (fL (hasB k) (valF (hasB k) s ((p + 1 + (eL (hasB k) 0 (valN (hasB k) s ((p + 1 : Nat) : Int) 0 0)).length + (eL (hasB k) 1 (valN (hasB k) s ((p + 1 : Nat) : Int) 1 0)).length + (eL (hasB k) 2 (valN (hasB k) s ((p + 1 : Nat) : Int) 2 0)).length + (eL (hasB k) 3 (valN (hasB k) s ((p + 1 : Nat) : Int) 3 0)).length : Nat) : Int) false)).length : Nat) : Int) 1 = 0 := by
    apply Classical.byContradiction
    intro g
    have := errT_no g 1
    rw [e3] at this
    exact g this.symm
  obtain ⟨q5, s5, x5⟩ := invT (i := 0) rfl sF.2 eT1
  obtain ⟨q6, s6, _⟩ := invT (i := 1) q5 s5.2 e3
  refine ⟨p, k, _, _, _, _, _, _, _, rfl, ?_, hr, ?_, x5⟩
  · simp only [show 1 + 1 = 2 from rfl] at q6
    rw [q6]
    unfold putL
    simp only [List.length_append, List.length_singleton, Nat.add_assoc]
  · unfold putL
    exact sg0.append (s1.append (s2.append (s3.append (s4.append (sF.append (s5.append s6))))))
end Go.Proofs.YtjjimkmbbifbjaaDoor.SP
