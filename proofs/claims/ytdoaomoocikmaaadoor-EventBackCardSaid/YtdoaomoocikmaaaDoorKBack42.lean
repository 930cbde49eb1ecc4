import Derived.Test.YtdoaomoocikmaaaDoorKBack23
namespace Go.Proofs.YtdoaomoocikmaaaDoor.EP
open Go Go.RowKit Go.Proofs.YtdoaomoocikmaaaDoor Go.Proofs.YtdoaomoocikmaaaDoor.VP Go.Proofs.YtdoaomoocikmaaaDoor.VF Go.Proofs.YtdoaomoocikmaaaDoor.TP Go.Proofs.YtdoaomoocikmaaaDoor.EB Go.Proofs.YtdoaomoocikmaaaDoorW.PrintWords
theorem drop_step {L a b : List Int} {p : Nat} (h : L.drop p = a ++ b) : L.drop (p + a.length) = b := by
  rw [← List.drop_drop, h, List.drop_left]
theorem le_size {s : ByteArray} {p : Nat} {a : List Int} (h : (bytesOf s).drop p = a) (ha : a ≠ []) : p + a.length = s.size := by
  have := congrArg List.length h
  rw [List.length_drop, size_bytes] at this
  have : 0 < a.length := List.length_pos_iff.2 ha
  omega
theorem enc_ne (n : Int) : enc n ≠ [] := fun h => by
  have := enc_length n
  rw [h] at this
  have := sz_bd n
  simp at *
  omega
theorem getS_enc {s : ByteArray} {p : Nat} {n : Int} {r : List Int} (h0 : 0 ≤ n) (h1 : n ≤ 18446744073709551615) (h : (bytesOf s).drop p = enc n ++ r) : VF.getS s p = (n, ((p + sz n : Nat) : Int), 0) := by
  have hz := le_size h (fun g => enc_ne n (List.append_eq_nil_iff.1 g).1)
  unfold VF.getS
  rw [if_neg (by omega), Int.toNat_natCast, h, dec_enc h0 h1, if_pos rfl]
  simp
theorem cutS_enc {s x : ByteArray} {p : Nat} {r : List Int} (hx : x.size ≤ 65536) (h : (bytesOf s).drop p = (enc x.size ++ bytesOf x) ++ r) : VF.cutS s p = (x, ((p + (sz x.size + x.size) : Nat) : Int), 0) := by
  have hg := getS_enc (s := s) (p := p) (n := x.size) (r := bytesOf x ++ r) (by omega) (by omega) (by rw [h, List.append_assoc])
  have hz := le_size h (fun g => enc_ne x.size (List.append_eq_nil_iff.1 (List.append_eq_nil_iff.1 g).1).1)
  rw [List.length_append, List.length_append, enc_length, size_bytes] at hz
  unfold VF.cutS
  rw [hg]
  simp only []
  rw [if_pos trivial, if_neg (by omega), if_neg (by omega)]
  have e : s.extract (((p + sz x.size : Nat) : Int)).toNat (((p + sz x.size : Nat) : Int) + (x.size : Int)).toNat = x := by
    apply bytes_inj
    rw [bytes_extract, Int.toNat_natCast, show (((p + sz x.size : Nat) : Int) + (x.size : Int)).toNat - (p + sz x.size) = x.size by omega]
    have := drop_step (a := enc x.size) (b := bytesOf x ++ r) (show (bytesOf s).drop p = enc x.size ++ (bytesOf x ++ r) by rw [h, List.append_assoc])
    rw [enc_length] at this
    rw [this, ← size_bytes x, List.take_left]
  rw [e, show (((p + sz x.size : Nat) : Int) + (x.size : Int)) = ((p + (sz x.size + x.size) : Nat) : Int) by omega]
theorem numS_enc {s : ByteArray} {p : Nat} {n : Int} {r : List Int} (h0 : 0 ≤ n) (h1 : n ≤ 1099511627776) (h : (bytesOf s).drop p = enc n ++ r) : numS s p 0 = (n, ((p + (enc n).length : Nat) : Int), 0) := by
  unfold numS
  rw [getS_enc h0 (by omega) h, if_neg (by simp), if_neg (by simp), if_neg (show ¬ 1099511627777 ≤ n by omega), enc_length]
theorem textS_enc {s x : ByteArray} {p : Nat} {r : List Int} (hx : x.size ≤ 65536) (h : (bytesOf s).drop p = (enc x.size ++ bytesOf x) ++ r) : textS s p 0 = (x, ((p + (enc x.size ++ bytesOf x).length : Nat) : Int), 0) := by
  unfold textS
  rw [cutS_enc hx h, if_neg (by simp), if_neg (by simp), List.length_append, enc_length, size_bytes]
theorem rbd {o q : Int} {t l : ByteArray} {m : Int} (h : rightE o q t l m = true) : (0 ≤ o ∧ o ≤ 1099511627776) ∧ (1 ≤ q ∧ q ≤ 1099511627776) ∧ (0 ≤ m ∧ m ≤ 1000) ∧ rightB t = true ∧ l.size ≤ 64 := by
  unfold rightE at h
  simp only [Bool.and_eq_true, decide_eq_true_eq] at h
  exact ⟨h.1, h.2.1, h.2.2.1, h.2.2.2.1, h.2.2.2.2⟩
theorem getE_put {s : ByteArray} {p : Nat} {o q : Int} {t l : ByteArray} {m : Int} {r : List Int} (hr : rightE o q t l m = true) (ht : t.size ≤ 65536) (h : (bytesOf s).drop p = putE o q t l m ++ r) :
    getE s p = (o, q, t, l, m, ((p + (putE o q t l m).length : Nat) : Int), 0) := by
  obtain ⟨⟨o0, o1⟩, ⟨q0, q1⟩, ⟨m0, m1⟩, _, l1⟩ := rbd hr
  have h1 : (bytesOf s).drop p = enc o ++ (enc q ++ (enc m ++ ((enc t.size ++ bytesOf t) ++ ((enc l.size ++ bytesOf l) ++ r)))) := by
    rw [h]
    unfold putE
    simp only [List.append_assoc]
  have h2 := drop_step h1
  have h3 := drop_step h2
  have h4 := drop_step h3
  have h5 := drop_step h4
  unfold getE read5
  simp only [numS_enc o0 o1 h1, numS_enc (by omega) q1 h2, numS_enc m0 (by omega) h3, textS_enc ht h4, textS_enc (by omega) h5]
  rw [if_neg (by simp), if_pos hr]
  unfold putE
  simp only [List.length_append, Nat.add_assoc]
theorem readM_enc {s : ByteArray} : ∀ (l : List (Int × Int)) (p : Nat) (r : List Int), (∀ m ∈ l, 0 ≤ m.1 ∧ m.1 ≤ 1099511627776 ∧ 1 ≤ m.2 ∧ m.2 ≤ 1099511627776) → (bytesOf s).drop p = encM l ++ r →
    readM s l.length p 0 = (l, ((p + (encM l).length : Nat) : Int), 0)
  | [], p, r, _, _ => rfl
  | m :: l, p, r, hb, h => by
    have hm := hb m (by simp)
    have h1 : (bytesOf s).drop p = enc m.1 ++ (enc m.2 ++ (encM l ++ r)) := by
      rw [h]
      simp only [encM, List.append_assoc]
    have h2 := drop_step h1
    have h3 := drop_step h2
    simp only [List.length_cons, readM, numS_enc hm.1 hm.2.1 h1, numS_enc (show 0 ≤ m.2 by omega) hm.2.2.2 h2, readM_enc l _ r (fun x hx => hb x (List.mem_cons_of_mem _ hx)) h3]
    simp only [encM, List.length_append, Nat.add_assoc]
theorem cutE_marks {s : ByteArray} {p : Nat} {l : List (Int × Int)} {r : List Int} (hl : sortedB l = true) (h : (bytesOf s).drop p = marksE l ++ r) : cutE s p = (l, ((p + (marksE l).length : Nat) : Int), 0) := by
  obtain ⟨l1, l2⟩ := sorted_all hl
  have h1 : (bytesOf s).drop p = enc l.length ++ (encM l ++ r) := by
    rw [h]
    unfold marksE
    rw [List.append_assoc]
  have h2 := drop_step h1
  unfold cutE
  simp only [numS_enc (show (0 : Int) ≤ l.length by omega) (by omega) h1]
  rw [if_neg (by omega)]
  simp only [Int.toNat_natCast, readM_enc l _ r l2 h2]
  rw [if_neg (by simp), if_pos hl]
  unfold marksE
  simp only [List.length_append, Nat.add_assoc]
def Seg (s : ByteArray) (p : Nat) (e : List Int) : Prop := e = ((bytesOf s).drop p).take e.length ∧ p + e.length ≤ s.size
theorem Seg.append {s : ByteArray} {p : Nat} {a b : List Int} (h : Seg s p a) (k : Seg s (p + a.length) b) : Seg s p (a ++ b) := by
  refine ⟨?_, by rw [List.length_append]; have := k.2; omega⟩
  have h1 := h.1
  have k1 := k.1
  rw [← List.drop_drop] at k1
  rw [List.length_append, List.take_add, ← h1, ← k1]
theorem Seg.nil {s : ByteArray} {p : Nat} (h : p ≤ s.size) : Seg s p [] := ⟨by simp, h⟩
theorem numS_zero {s : ByteArray} {a bad : Int} (h : (numS s a bad).2.2 = 0) : bad = 0 := by
  unfold numS at h
  by_cases g : bad ≠ 0
  · rw [if_pos g] at h
    exact absurd h g
  · simpa using g
theorem textS_zero {s : ByteArray} {a bad : Int} (h : (textS s a bad).2.2 = 0) : bad = 0 := by
  unfold textS at h
  by_cases g : bad ≠ 0
  · rw [if_pos g] at h
    exact absurd h g
  · simpa using g
theorem numS_inv {s : ByteArray} {a : Int} (h : (numS s a 0).2.2 = 0) (hb : (numS s a 0).1 ≤ 1099511627776) : ∃ p : Nat, a = p ∧ (numS s a 0).2.1 = ((p + (enc (numS s a 0).1).length : Nat) : Int) ∧ Seg s p (enc (numS s a 0).1) ∧ 0 ≤ (numS s a 0).1 := by
  rcases getS_cases s a with g | ⟨n, p, rfl, g, e, z, h0, h1⟩
  · unfold numS at h
    rw [if_neg (by simp), if_pos g.1] at h
    exact absurd h g.1
  · have en : numS s (p : Int) 0 = (if 1099511627777 ≤ n then 1099511627777 else n, ((p + sz n : Nat) : Int), 0) := by
      unfold numS
      rw [g, if_neg (by simp), if_neg (by simp)]
    rw [en] at hb ⊢
    simp only [] at hb ⊢
    have hn : ¬ 1099511627777 ≤ n := by
      intro g
      rw [if_pos g] at hb
      omega
    rw [if_neg hn]
    exact ⟨p, rfl, by rw [enc_length], by unfold Seg; rw [enc_length]; exact ⟨e, z⟩, h0⟩
theorem textS_inv {s : ByteArray} {a : Int} (h : (textS s a 0).2.2 = 0) : ∃ p : Nat, a = p ∧ (textS s a 0).2.1 = ((p + (enc (textS s a 0).1.size ++ bytesOf (textS s a 0).1).length : Nat) : Int) ∧ Seg s p (enc (textS s a 0).1.size ++ bytesOf (textS s a 0).1) := by
  have hc : (VF.cutS s a).2.2 = 0 := by
    unfold textS at h
    rw [if_neg (by simp)] at h
    by_cases g : (VF.cutS s a).2.2 ≠ 0
    · rw [if_pos g] at h
      exact absurd h g
    · simpa using g
  have et : textS s a 0 = ((VF.cutS s a).1, (VF.cutS s a).2.1, 0) := by
    unfold textS
    rw [if_neg (by simp), if_neg (by simpa using hc)]
  rw [et]
  simp only []
  rcases getS_cases s a with g | ⟨n, p, rfl, g, e, z, h0, h1⟩
  · unfold VF.cutS at hc
    rw [if_neg g.1] at hc
    exact absurd hc g.1
  · unfold VF.cutS at hc ⊢
    rw [g] at hc ⊢
    simp only [] at hc ⊢
    rw [if_pos trivial] at hc ⊢
    by_cases g1 : n > 65536
    · rw [if_pos g1] at hc
      exact absurd hc (by decide)
    · rw [if_neg g1] at hc ⊢
      by_cases g2 : (s.size : Int) - ((p + sz n : Nat) : Int) < n
      · rw [if_pos g2] at hc
        exact absurd hc (by decide)
      · rw [if_neg g2]
        simp only []
        obtain ⟨k, rfl⟩ := Int.eq_ofNat_of_zero_le h0
        have hk : (s.extract (((p + sz k : Nat) : Int)).toNat ((((p + sz k : Nat) : Int)) + (k : Int)).toNat).size = k := by
          rw [ByteArray.size_extract]
          omega
        have hb : bytesOf (s.extract (((p + sz k : Nat) : Int)).toNat ((((p + sz k : Nat) : Int)) + (k : Int)).toNat) = ((bytesOf s).drop (p + sz k)).take k := by
          rw [bytes_extract, Int.toNat_natCast, show ((((p + sz k : Nat) : Int)) + (k : Int)).toNat - (p + sz k) = k by omega]
        rw [hk]
        refine ⟨p, rfl, ?_, ?_⟩
        · rw [List.length_append, enc_length, size_bytes, hk]
          omega
        · refine Seg.append ⟨by rw [enc_length]; exact e, by rw [enc_length]; exact z⟩ ?_
          rw [enc_length]
          refine ⟨?_, by rw [size_bytes, hk]; omega⟩
          rw [size_bytes, hk]
          exact hb
theorem getE_zero {s : ByteArray} {a : Int} (h : (getE s a).2.2.2.2.2.2 = 0) : ∃ (p : Nat) (o q : Int) (t l : ByteArray) (m : Int), a = p ∧ getE s a = (o, q, t, l, m, ((p + (putE o q t l m).length : Nat) : Int), 0) ∧ rightE o q t l m = true ∧ Seg s p (putE o q t l m) := by
  have hr : ∃ o q m t l to_ e, read5 s a = (o, q, m, t, l, to_, e) := ⟨_, _, _, _, _, _, _, rfl⟩
  obtain ⟨o, q, m, t, l, to_, e, hr⟩ := hr
  have hg : getE s a = if e ≠ 0 then (0, 0, ⟨#[]⟩, ⟨#[]⟩, 0, 0, e) else if rightE o q t l m = true then (o, q, t, l, m, to_, 0) else (0, 0, ⟨#[]⟩, ⟨#[]⟩, 0, 0, 4) := by
    unfold getE
    rw [hr]
  rw [hg] at h ⊢
  by_cases he : e ≠ 0
  · rw [if_pos he] at h
    exact absurd h he
  · rw [if_neg he] at h ⊢
    by_cases hq : rightE o q t l m = true
    · rw [if_pos hq]
      have he0 : e = 0 := by simpa using he
      subst he0
      obtain ⟨⟨o0, o1⟩, ⟨q0, q1⟩, ⟨m0, m1⟩, _, l1⟩ := rbd hq
      unfold read5 at hr
      simp only [Prod.mk.injEq] at hr
      obtain ⟨r1, r2, r3, r4, r5, r6, r7⟩ := hr
      have z5 := textS_zero r7
      have z4 := textS_zero z5
      have z3 := numS_zero z4
      have z2 := numS_zero z3
      rw [z2] at r2 r3 r4 r5 r6 r7 z3 z4 z5
      rw [z3] at r3 r4 r5 r6 r7 z4 z5
      rw [z4] at r4 r5 r6 r7 z5
      rw [z5] at r5 r6 r7
      obtain ⟨p1, e1, f1, s1, _⟩ := numS_inv z2 (by rw [r1]; omega)
      rw [r1] at f1 s1
      rw [f1] at r2 r3 r4 r5 r6 r7 z3 z4 z5
      obtain ⟨p2, e2, f2, s2, _⟩ := numS_inv z3 (by rw [r2]; omega)
      rw [r2] at f2 s2
      rw [f2] at r3 r4 r5 r6 r7 z4 z5
      obtain ⟨p3, e3, f3, s3, _⟩ := numS_inv z4 (by rw [r3]; omega)
      rw [r3] at f3 s3
      rw [f3] at r4 r5 r6 r7 z5
      obtain ⟨p4, e4, f4, s4⟩ := textS_inv z5
      rw [r4] at f4 s4
      rw [f4] at r5 r6 r7
      obtain ⟨p5, e5, f5, s5⟩ := textS_inv r7
      rw [r5] at f5 s5
      rw [f5] at r6
      have e2' := Int.ofNat.inj e2
      have e3' := Int.ofNat.inj e3
      have e4' := Int.ofNat.inj e4
      have e5' := Int.ofNat.inj e5
      subst e2' e3' e4' e5'
      have sg := s1.append (s2.append (s3.append (s4.append s5)))
      refine ⟨p1, o, q, t, l, m, e1, ?_, hq, sg⟩
      rw [← r6]
      unfold putE
      simp only [List.length_append, Nat.add_assoc]
    · rw [if_neg hq] at h
      exact absurd h (by decide)
theorem readM_zero {s : ByteArray} : ∀ (n : Nat) {a bad : Int}, (readM s n a bad).2.2 = 0 → bad = 0
  | 0, _, _, h => h
  | n + 1, a, bad, h => by
    simp only [readM] at h
    exact numS_zero (numS_zero (readM_zero n h))
theorem readM_inv {s : ByteArray} : ∀ (n p : Nat), p ≤ s.size → (readM s n p 0).2.2 = 0 → (∀ m ∈ (readM s n p 0).1, m.1 ≤ 1099511627776 ∧ m.2 ≤ 1099511627776) →
    (readM s n p 0).2.1 = ((p + (encM (readM s n p 0).1).length : Nat) : Int) ∧ Seg s p (encM (readM s n p 0).1) ∧ (readM s n p 0).1.length = n
  | 0, p, hp, _, _ => ⟨rfl, Seg.nil hp, rfl⟩
  | n + 1, p, hp, h, hb => by
    simp only [readM] at h hb ⊢
    have z2 := readM_zero n h
    have z1 := numS_zero z2
    have hm := hb _ (List.mem_cons_self)
    have hbr := fun x hx => hb x (List.mem_cons_of_mem _ hx)
    clear hb
    obtain ⟨p1, e1, f1, s1, _⟩ := numS_inv z1 hm.1
    obtain rfl := Int.ofNat.inj e1
    rw [z1, f1] at h z2 hm hbr ⊢
    obtain ⟨p2, e2, f2, s2, _⟩ := numS_inv z2 hm.2
    have e2' := Int.ofNat.inj e2
    subst e2'
    rw [z2, f2] at h hbr ⊢
    have := s2.2
    obtain ⟨i1, i2, i3⟩ := readM_inv n _ (by omega) h hbr
    refine ⟨?_, ?_, by rw [List.length_cons, i3]⟩
    · rw [i1]
      simp only [encM, List.length_append, Nat.add_assoc]
    · simp only [encM]
      exact (s1.append s2).append (by rw [List.length_append, ← Nat.add_assoc]; exact i2)
theorem cutE_zero {s : ByteArray} {a : Int} (h : (cutE s a).2.2 = 0) : ∃ (p : Nat) (l : List (Int × Int)), a = p ∧ cutE s a = (l, ((p + (marksE l).length : Nat) : Int), 0) ∧ sortedB l = true ∧ Seg s p (marksE l) := by
  unfold cutE at h ⊢
  simp only [] at h ⊢
  by_cases g1 : (numS s a 0).1 > 32
  · rw [if_pos g1] at h
    exact absurd h (by decide)
  · rw [if_neg g1] at h ⊢
    by_cases g2 : (readM s (numS s a 0).1.toNat (numS s a 0).2.1 (numS s a 0).2.2).2.2 ≠ 0
    · rw [if_pos g2] at h
      exact absurd h g2
    · rw [if_neg g2] at h ⊢
      by_cases g3 : sortedB (readM s (numS s a 0).1.toNat (numS s a 0).2.1 (numS s a 0).2.2).1 = true
      · rw [if_pos g3]
        have z0 : (readM s (numS s a 0).1.toNat (numS s a 0).2.1 (numS s a 0).2.2).2.2 = 0 := by simpa using g2
        have z1 := readM_zero _ z0
        obtain ⟨p, e1, f1, s1, n0⟩ := numS_inv z1 (by omega)
        rw [z1, f1] at g3 z0 ⊢
        obtain ⟨b1, b2⟩ := sorted_all g3
        obtain ⟨i1, i2, i3⟩ := readM_inv _ _ s1.2 z0 (fun m hm => ⟨(b2 m hm).2.1, (b2 m hm).2.2.2⟩)
        have hn : (numS s a 0).1 = (((readM s (numS s a 0).1.toNat ((p + (enc (numS s a 0).1).length : Nat) : Int) 0).1.length : Nat) : Int) := by rw [i3]; omega
        refine ⟨p, _, e1, ?_, g3, ?_⟩
        · rw [i1]
          unfold marksE
          rw [← hn]
          simp only [List.length_append, Nat.add_assoc]
        · unfold marksE
          rw [← hn]
          exact s1.append i2
      · rw [if_neg g3] at h
        exact absurd h (by decide)
end Go.Proofs.YtdoaomoocikmaaaDoor.EP
