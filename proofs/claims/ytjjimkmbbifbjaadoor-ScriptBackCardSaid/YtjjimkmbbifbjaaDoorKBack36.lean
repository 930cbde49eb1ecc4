import Derived.Test.YtjjimkmbbifbjaaDoorKBack34
import Derived.Test.YtjjimkmbbifbjaaDoorKBack35
namespace Go.Proofs.YtjjimkmbbifbjaaDoor.SR
open Go Go.RowKit Go.Proofs.YtjjimkmbbifbjaaDoor Go.Proofs.YtjjimkmbbifbjaaDoor.VP Go.Proofs.YtjjimkmbbifbjaaDoor.VF Go.Proofs.YtjjimkmbbifbjaaDoor.SP Go.Proofs.YtjjimkmbbifbjaaDoor.SW Go.Proofs.YtjjimkmbbifbjaaDoor.Pr Go.Proofs.YtjjimkmbbifbjaaDoorW.PrintWords
def rA (x : A) : Bool := rightA x.f0 x.f1 x.f2 x.f3 x.f4 x.f5 x.f6 x.f7
def pL (x : A) : List Int := putL x.f0 x.f1 x.f2 x.f3 x.f4 x.f5 x.f6 x.f7
def pA (x : A) : ByteArray := putA x.f0 x.f1 x.f2 x.f3 x.f4 x.f5 x.f6 x.f7
theorem pL_pos (x : A) : 0 < (pL x).length := by unfold pL putL; simp
theorem pA_bytes {x : A} (h : rA x = true) : bytesOf (pA x) = pL x := by
  rw [show pA x = putS x.f0 x.f1 x.f2 x.f3 x.f4 x.f5 x.f6 x.f7 from if_pos h]
  exact bytes_putS h
theorem pA_none {x : A} (h : rA x = false) : pA x = ⟨#[]⟩ := if_neg (fun g => by unfold rA at h; rw [h] at g; cases g)
theorem pA_size {x : A} (h : rA x = true) : (pA x).size = (pL x).length := by rw [← pA_bytes h, size_bytes]
theorem pA_list {x : A} : (pA x).toList = ([] : List UInt8) ↔ rA x = false := by
  cases h : rA x with
  | true =>
    have := pL_pos x
    have hs := pA_size h
    refine ⟨fun g => ?_, fun g => by cases g⟩
    rw [VF.toList_eq] at g
    have : (pA x).size = 0 := by show (pA x).data.size = 0; rw [← Array.length_toList, g]; rfl
    omega
  | false => rw [pA_none h]; simp [VF.toList_eq]
def okA (x : A) : Prop := rA x = true ∧ x.f4.size ≤ 65536
theorem got_put {s : ByteArray} {p : Nat} {x : A} {r : List Int} (h : okA x) (hd : (bytesOf s).drop p = pL x ++ r) : er10 (getA s p) = 0 ∧ mk8 (getA s p) = x ∧ to10 (getA s p) = ((p + (pL x).length : Nat) : Int) := by
  rw [getA_put h.1 h.2 hd]
  exact ⟨rfl, rfl, rfl⟩
theorem put_got {s : ByteArray} {a : Int} (h : er10 (getA s a) = 0) : ∃ p : Nat, a = p ∧ okA (mk8 (getA s a)) ∧ Seg s p (pL (mk8 (getA s a))) ∧ to10 (getA s a) = ((p + (pL (mk8 (getA s a))).length : Nat) : Int) := by
  obtain ⟨p, k, n, N, K, x, y, b, T, e, g, hr, sg, hx⟩ := getA_zero h
  rw [g]
  exact ⟨p, e, ⟨hr, hx⟩, sg, rfl⟩
def bL : List A → List Int
  | [] => []
  | x :: l => pL x ++ bL l
theorem rds_put {s : ByteArray} : ∀ (l : List A) (p : Nat) (r : List Int) (m : List A) (q : Int), (∀ x ∈ l, okA x) → (bytesOf s).drop p = bL l ++ r → Rds s ((p + (bL l).length : Nat) : Int) m q → Rds s p (l ++ m) q
  | [], p, r, m, q, _, _, h => by simpa [bL] using h
  | x :: l, p, r, m, q, hl, hd, h => by
    have h1 : (bytesOf s).drop p = pL x ++ (bL l ++ r) := by rw [hd, bL, List.append_assoc]
    obtain ⟨g1, g2, g3⟩ := got_put (hl x (by simp)) h1
    have := Rds.more p (l ++ m) q g1 (by
      rw [g3]
      refine rds_put l _ r m q (fun y hy => hl y (List.mem_cons_of_mem _ hy)) (drop_step h1) ?_
      rw [bL, List.length_append, ← Nat.add_assoc] at h
      exact h)
    rw [g2] at this
    exact this
theorem rds_end (s : ByteArray) : Rds s s.size [] s.size := .done _ fun h => by
  have := get_bds h
  omega
theorem rds_got {s : ByteArray} {a : Int} {l : List A} {q : Int} (h : Rds s a l q) : ∀ p : Nat, a = p → p ≤ s.size → (∀ x ∈ l, okA x) ∧ Seg s p (bL l) ∧ q = ((p + (bL l).length : Nat) : Int) := by
  induction h with
  | done a h =>
    intro p hp hz
    exact ⟨by simp, Seg.nil hz, hp⟩
  | more a l q h r ih =>
    intro p hp hz
    obtain ⟨p', e, ok, sg, ht⟩ := put_got h
    obtain rfl : p' = p := by omega
    obtain ⟨i1, i2, i3⟩ := ih _ ht sg.2
    refine ⟨?_, sg.append i2, ?_⟩
    · intro x hx
      rcases List.mem_cons.1 hx with rfl | hx
      · exact ok
      · exact i1 x hx
    · rw [i3, bL, List.length_append, Nat.add_assoc]
def cutA (x : A) : A := ⟨x.f0, x.f1, x.f2, x.f3, x.f4.extract 0 (mn (x.f4.size : Int) 150).toNat, x.f5.extract 0 (mn (x.f5.size : Int) 150).toNat, x.f6, x.f7⟩
theorem mn_cut (s : ByteArray) : 0 ≤ mn (s.size : Int) 150 ∧ mn (s.size : Int) 150 ≤ s.size ∧ mn (s.size : Int) 150 ≤ 150 := by unfold mn; split <;> omega
theorem cut_f (a n N K : Int) (s t : ByteArray) (b : Bool) (T : Int) : rivuletlaw23_cut.f a n N K s t b T = some (a, n, N, K, s.extract 0 (mn (s.size : Int) 150).toNat, t.extract 0 (mn (t.size : Int) 150).toNat, b, T) := by
  have h1 := mn_cut s
  have h2 := mn_cut t
  unfold rivuletlaw23_cut.f
  rw [if_pos h1.1, if_pos h1.2.1, if_pos h2.1, if_pos h2.2.1]
theorem ex_size (s : ByteArray) : (s.extract 0 (mn (s.size : Int) 150).toNat).size ≤ 150 := by
  have := mn_cut s
  rw [ByteArray.size_extract]
  omega
def fit (x : A) : Prop := x.f4.size ≤ 150 ∧ x.f5.size ≤ 150
theorem cut_fit (x : A) : fit (cutA x) := ⟨ex_size _, ex_size _⟩
theorem Cut_l0 (l : List A) : ∀ (d k i : Nat) (acc : List A), i + d = 40 → d < k → acc.length ≤ 40 → (∀ x ∈ acc, fit x) → acc.length = i → ∃ m, rivuletlaw23_Cut.l0 k l acc (i : Int) = some m ∧ m.length ≤ 40 ∧ ∀ x ∈ m, fit x := by
  intro d
  induction d with
  | zero =>
    intro k i acc hi hk ha hf hl
    obtain ⟨k, rfl⟩ : ∃ m, k = m + 1 := ⟨k - 1, by omega⟩
    refine ⟨acc, ?_, ha, hf⟩
    simp only [rivuletlaw23_Cut.l0]
    by_cases h : (i : Int) < l.length
    · rw [if_pos h, if_neg (by omega)]
    · rw [if_neg h]
  | succ d ih =>
    intro k i acc hi hk ha hf hl
    obtain ⟨k, rfl⟩ : ∃ m, k = m + 1 := ⟨k - 1, by omega⟩
    simp only [rivuletlaw23_Cut.l0]
    by_cases h : (i : Int) < l.length
    · rw [if_pos h, if_pos (by omega), if_pos (by omega), cut_f, Option.bind_some, if_pos (by omega), w1i (by omega)]
      refine ih k (i + 1) _ (by omega) (by omega) (by rw [List.length_append, List.length_singleton]; omega) ?_ (by rw [List.length_append, List.length_singleton]; omega)
      intro x hx
      rcases List.mem_append.1 hx with hx | hx
      · exact hf x hx
      · rw [List.mem_singleton.1 hx]
        exact cut_fit (rd_T23 l (i : Int))
    · rw [if_neg h]
      exact ⟨acc, rfl, ha, hf⟩
theorem Cut_f (l : List A) {k : Nat} (hk : 41 ≤ k) : ∃ m, rivuletlaw23_Cut.f k l = some m ∧ m.length ≤ 40 ∧ ∀ x ∈ m, fit x :=
  Cut_l0 l 40 k 0 [] rfl (by omega) (by simp) (by simp) rfl
theorem eL_len (h : Int) (i : Nat) (v : Int) : (eL h i v).length ≤ 9 := by
  unfold eL
  split
  · rw [enc_length]; exact (sz_bd v).2
  · simp
theorem xL_len (h : Int) (i : Nat) (x : ByteArray) : (xL h i x).length ≤ 9 + x.size := by
  unfold xL
  split
  · rw [tL_length]; have := (sz_bd x.size).2; omega
  · simp
theorem fL_len (h : Int) (b : Bool) : (fL h b).length ≤ 1 := by unfold fL; split <;> simp
theorem pL_len {x : A} (h : fit x) : (pL x).length ≤ 400 := by
  unfold pL putL
  simp only [List.length_append, List.length_singleton]
  have := eL_len (hasB x.f0) 0 x.f1
  have := eL_len (hasB x.f0) 1 x.f2
  have := eL_len (hasB x.f0) 2 x.f3
  have := eL_len (hasB x.f0) 3 x.f7
  have := fL_len (hasB x.f0) x.f6
  have := xL_len (hasB x.f0) 5 x.f4
  have := xL_len (hasB x.f0) 6 x.f5
  have := h.1
  have := h.2
  omega
theorem pA_le {x : A} (h : fit x) : (pA x).size ≤ 400 := by
  cases hr : rA x with
  | true => rw [pA_size hr]; exact pL_len h
  | false => rw [pA_none hr]; exact Nat.zero_le _
def rights (l : List A) : List A := l.filter fun x => rA x
def putAll (l : List A) : ByteArray := l.foldl (fun s x => s ++ pA x) ⟨#[]⟩
theorem putAll_bytes (l : List A) : ∀ acc : ByteArray, bytesOf (l.foldl (fun s x => s ++ pA x) acc) = bytesOf acc ++ bL (rights l) := by
  induction l with
  | nil => intro acc; show bytesOf acc = _; rw [show bL (rights []) = [] from rfl, List.append_nil]
  | cons x l ih =>
    intro acc
    rw [List.foldl_cons, ih, bytes_append]
    unfold rights
    cases h : rA x with
    | true => rw [List.filter_cons_of_pos h, bL, pA_bytes h, List.append_assoc]
    | false => rw [List.filter_cons_of_neg (by rw [h]; decide), pA_none h]; simp [bytesOf]
theorem rights_ok {l : List A} (h : ∀ x ∈ l, fit x) : ∀ x ∈ rights l, okA x := fun x hx => by
  obtain ⟨h1, h2⟩ := List.mem_filter.1 hx
  have := h x h1
  exact ⟨h2, by have := this.1; omega⟩
abbrev R8 := Int × Int × Int × Int × ByteArray × ByteArray × Bool × Int
def t8 (x : A) : R8 := (x.f0, x.f1, x.f2, x.f3, x.f4, x.f5, x.f6, x.f7)
def bareA (x : A) : A := ⟨kI (hasB x.f0) x.f0, cI (hasB x.f0) 0 x.f1, cI (hasB x.f0) 1 x.f2, cI (hasB x.f0) 2 x.f3, cS (hasB x.f0) 5 x.f4, cS (hasB x.f0) 6 x.f5, cB (hasB x.f0) 4 x.f6, cI (hasB x.f0) 3 x.f7⟩
theorem fit_bare {x : A} (h : fit x) : fit (bareA x) := by
  unfold fit bareA cS
  simp only []
  constructor
  · split
    · exact h.1
    · exact Nat.zero_le _
  · split
    · exact h.2
    · exact Nat.zero_le _
theorem bare_fA (x : A) : script_Bare.f x.f0 x.f1 x.f2 x.f3 x.f4 x.f5 x.f6 x.f7 = some (t8 (bareA x)) := rfl
theorem put_t8 (x : A) (h : fit x) : script_Put.f (t8 x).1 (t8 x).2.1 (t8 x).2.2.1 (t8 x).2.2.2.1 (t8 x).2.2.2.2.1 (t8 x).2.2.2.2.2.1 (t8 x).2.2.2.2.2.2.1 (t8 x).2.2.2.2.2.2.2 = some (pA x) := if_pos (by have := h.1; show x.f4.size ≤ _; omega)
theorem right_t8 (x : A) (h : fit x) : script_Right.f (t8 x).1 (t8 x).2.1 (t8 x).2.2.1 (t8 x).2.2.2.1 (t8 x).2.2.2.2.1 (t8 x).2.2.2.2.2.1 (t8 x).2.2.2.2.2.2.1 (t8 x).2.2.2.2.2.2.2 = some (rA x) := if_pos (by have := h.1; show x.f4.size ≤ _; omega)
theorem put_fA (x : A) (h : x.f4.size ≤ 900000) : script_Put.f x.f0 x.f1 x.f2 x.f3 x.f4 x.f5 x.f6 x.f7 = some (pA x) := if_pos h
theorem right_fA (x : A) (h : x.f4.size ≤ 900000) : script_Right.f x.f0 x.f1 x.f2 x.f3 x.f4 x.f5 x.f6 x.f7 = some (rA x) := if_pos h
end Go.Proofs.YtjjimkmbbifbjaaDoor.SR
