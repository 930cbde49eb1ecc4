import Derived.Test.YtjjimkmbbifbjaaDoorKPuts38
import Derived.Test.YtjjimkmbbifbjaaDoorKPuts44
namespace Go.Proofs.YtjjimkmbbifbjaaDoor.SR
open Go Go.RowKit Go.Proofs.YtjjimkmbbifbjaaDoor Go.Proofs.YtjjimkmbbifbjaaDoor.VP Go.Proofs.YtjjimkmbbifbjaaDoor.VF Go.Proofs.YtjjimkmbbifbjaaDoor.SP Go.Proofs.YtjjimkmbbifbjaaDoor.SW Go.Proofs.YtjjimkmbbifbjaaDoor.Pr Go.Proofs.YtjjimkmbbifbjaaDoorW.PrintWords
theorem phas (a : Int) {i : Nat} (h : i < 7) : Pr.rivuletref23_Has.f a (i : Int) = some (bH (hasB a) i) := by
  by_cases ha : 0 ≤ a ∧ a < 11
  · have hk : a = 0 ∨ a = 1 ∨ a = 2 ∨ a = 3 ∨ a = 4 ∨ a = 5 ∨ a = 6 ∨ a = 7 ∨ a = 8 ∨ a = 9 ∨ a = 10 := by omega
    have hi : i = 0 ∨ i = 1 ∨ i = 2 ∨ i = 3 ∨ i = 4 ∨ i = 5 ∨ i = 6 := by omega
    rcases hk with rfl | rfl | rfl | rfl | rfl | rfl | rfl | rfl | rfl | rfl | rfl <;> rcases hi with rfl | rfl | rfl | rfl | rfl | rfl | rfl <;> decide +kernel
  · rw [has_out ha, bH_zero h]
    unfold Pr.rivuletref23_Has.f
    by_cases h0 : a < 0
    · rw [if_pos h0]
    · rw [if_neg h0, if_pos (by omega)]
theorem addM_b (h : Int) (i : Nat) (m : Int) (hm : ((2 ^ i : Nat) : Int) = m) (out s : ByteArray) : addM h m out s = if bH h i = true then out ++ ((⟨#[32]⟩ : ByteArray) ++ s) else out := by
  subst hm
  rfl
theorem dig_f {n : Int} (h0 : 0 ≤ n) (h1 : n ≤ 9223372036854775807) : rivuletref06_Digits.f n = some (itS n) := if_pos ⟨h0, h1⟩
theorem l1_go {k : Nat} {L : List A} {out : ByteArray} {i : Int} {l6 : List Int} {j : Nat} (hj : j < 4) {v : Int} (hl : l6.length = 4) (hv : l6[j]? = some v) (v0 : 0 ≤ v) (v1 : v ≤ 9223372036854775807) (ho : out.size ≤ 4000000000000000000) (a b c d : Int) (s t : ByteArray) (f : Bool) (T : Int) :
    rivuletref23_Show.l1 (k + 1) L out i l6 (j : Int) a b c d s t f T = rivuletref23_Show.l1 k L (if bH (hasB a) j = true then out ++ ((⟨#[32]⟩ : ByteArray) ++ itS v) else out) i l6 ((j + 1 : Nat) : Int) a b c d s t f T := by
  have hr : rd l6 (j : Int) = v := by
    unfold rd
    rw [Int.toNat_natCast, List.getD_eq_getElem?_getD, hv]
    rfl
  have hz := it_size (n := v) (by omega) v1
  simp only [rivuletref23_Show.l1]
  rw [if_pos (by omega), phas a (by omega), Option.bind_some, w1i (by omega)]
  cases bH (hasB a) j with
  | true =>
    rw [if_pos rfl, if_pos (by omega), if_pos (by omega), hr, dig_f v0 v1, Option.bind_some, if_pos (by omega), if_pos (by rw [ByteArray.size_append, sz1]; omega), if_pos rfl]
  | false => rw [if_neg (by decide), if_neg (by decide)]
theorem l1_on {k : Nat} {L : List A} {out : ByteArray} {i : Int} {l6 : List Int} (a b c d : Int) (s t : ByteArray) (f : Bool) (T : Int) (ho : out.size ≤ 4000000000000000000) :
    rivuletref23_Show.l1 (k + 6) L out i l6 4 a b c d s t f T = rivuletref23_Show.j5 (k + 2) L (addM (hasB a) 16 out (onS f)) i a b c d s t f T := by
  have h4 : Pr.rivuletref23_Has.f a 4 = some (bH (hasB a) 4) := phas a (i := 4) (by decide)
  rw [addM_b (hasB a) 4 16 rfl out (onS f)]
  cases hb : bH (hasB a) 4 with
  | false =>
    rw [hb] at h4
    simp only [rivuletref23_Show.l1, if_neg (show ¬ (4 : Int) < 4 by decide), h4, Option.bind_some, Bool.false_eq_true, if_false, rivuletref23_Show.j2, rivuletref23_Show.j3, rivuletref23_Show.j4]
  | true =>
    rw [hb] at h4
    cases f with
    | true =>
      simp only [rivuletref23_Show.l1, if_neg (show ¬ (4 : Int) < 4 by decide), h4, Option.bind_some, if_true, rivuletref23_Show.j2, rivuletref23_Show.j3, rivuletref23_Show.j4, Bool.not_true, Bool.false_eq_true, if_false]
      rw [if_pos (by omega)]
      rfl
    | false =>
      simp only [rivuletref23_Show.l1, if_neg (show ¬ (4 : Int) < 4 by decide), h4, Option.bind_some, if_true, rivuletref23_Show.j2, rivuletref23_Show.j3, rivuletref23_Show.j4, Bool.not_false, Bool.false_eq_true, if_false]
      rw [if_pos (by omega)]
      rfl
theorem j5_end {k : Nat} {L : List A} {out : ByteArray} {i : Nat} (hi : i ≤ 4611686018427387904) (a b c d : Int) (s t : ByteArray) (f : Bool) (T : Int) (hs : s.size ≤ 900000) (ht : t.size ≤ 900000) (ho : out.size ≤ 4000000000000000000) :
    rivuletref23_Show.j5 (k + 2) L out (i : Int) a b c d s t f T = rivuletref23_Show.l0 k L (addM (hasB a) 64 (addM (hasB a) 32 out s) (itS t.size) ++ (⟨#[10]⟩ : ByteArray)) ((i + 1 : Nat) : Int) := by
  have h5 : Pr.rivuletref23_Has.f a 5 = some (bH (hasB a) 5) := phas a (i := 5) (by decide)
  have h6 : Pr.rivuletref23_Has.f a 6 = some (bH (hasB a) 6) := phas a (i := 6) (by decide)
  have hd := dig_f (n := (t.size : Int)) (by omega) (by omega)
  have hz := it_size (n := (t.size : Int)) (by omega) (by omega)
  have e32 : ((⟨#[32]⟩ : ByteArray) ++ s).size = 1 + s.size := by rw [ByteArray.size_append, sz1]
  have e33 : ((⟨#[32]⟩ : ByteArray) ++ itS t.size).size = 1 + (itS t.size).size := by rw [ByteArray.size_append, sz1]
  have hw := w1i hi
  have six : ∀ o : ByteArray, o.size ≤ 4000000000001000000 → rivuletref23_Show.j6 (k + 1) L o (i : Int) a b c d s t f T = rivuletref23_Show.l0 k L (addM (hasB a) 64 o (itS t.size) ++ (⟨#[10]⟩ : ByteArray)) ((i + 1 : Nat) : Int) := by
    intro o hob
    rw [addM_b (hasB a) 6 64 rfl o]
    simp only [rivuletref23_Show.j6]
    rw [h6, Option.bind_some, hw]
    cases bH (hasB a) 6 with
    | true =>
      rw [if_pos rfl, hd, Option.bind_some, if_pos (by omega), if_pos (by rw [e33]; omega), if_pos (by rw [ByteArray.size_append, e33]; omega), if_pos rfl]
    | false => rw [if_neg (by decide), if_pos (by omega), if_neg (by decide)]
  rw [addM_b (hasB a) 5 32 rfl out]
  simp only [rivuletref23_Show.j5]
  rw [h5, Option.bind_some]
  cases bH (hasB a) 5 with
  | true =>
    rw [if_pos rfl, if_pos (by omega), if_pos (by rw [e32]; omega), if_pos rfl]
    exact six _ (by rw [ByteArray.size_append, e32]; omega)
  | false =>
    rw [if_neg (by decide), if_neg (by decide)]
    exact six _ (by omega)
theorem rshow_loop (L : List A) (hL : L.length ≤ 1000) (hf : ∀ x ∈ L, x.f4.size ≤ 900000 ∧ x.f5.size ≤ 900000) : ∀ (d k i : Nat) (out : ByteArray), i + d = L.length → 11 * d < k → out.size ≤ 2000000 * i → rivuletref23_Show.l0 k L out (i : Int) = some (((L.drop i).map toA).foldl show1 out) := by
  intro d
  induction d with
  | zero =>
    intro k i out hi hk ho
    obtain ⟨k, rfl⟩ : ∃ m, k = m + 1 := ⟨k - 1, by omega⟩
    simp only [rivuletref23_Show.l0]
    rw [if_neg (by omega), List.drop_of_length_le (by omega)]
    rfl
  | succ d ih =>
    intro k i out hi hk ho
    obtain ⟨k, rfl⟩ : ∃ m, k = m + 1 := ⟨k - 1, by omega⟩
    have hil : i < L.length := by omega
    have hx := hf _ (List.getElem_mem hil)
    simp only [rivuletref23_Show.l0]
    rw [if_pos (by omega), if_pos (by omega), rd23 L hil, List.drop_eq_getElem_cons hil, List.map_cons, List.foldl_cons]
    generalize L[i]'hil = x at hx
    have hs1 := show1_size out (toA x) hx
    rw [show rivuletref23_Right.f x.f0 x.f1 x.f2 x.f3 x.f4 x.f5 x.f6 x.f7 = some (rA x) from if_pos hx.1, Option.bind_some]
    cases hr : rA x with
    | false =>
      rw [if_neg (by decide), w1i (by omega), ih k (i + 1) out (by omega) (by omega) (by omega)]
      rw [show show1 out (toA x) = out from if_neg (by rw [show (toA x).right = rA x from rfl, hr]; decide)]
    | true =>
      obtain ⟨_, _, _, hn, hN, hK, hT, _⟩ := rightA_all hr
      have hz := names_size x.f0
      rw [if_pos rfl, show rivuletref23_Name.f x.f0 = some (nameS x.f0) from rfl, Option.bind_some, if_pos (by omega), show rivuletref23_numbers.f x.f0 x.f1 x.f2 x.f3 x.f4 x.f5 x.f6 x.f7 = some [x.f1, x.f2, x.f3, x.f7] from rfl, Option.bind_some]
      have b0 : (out ++ nameS x.f0).size ≤ out.size + 7 := by rw [ByteArray.size_append]; omega
      have n0 := it_size (n := x.f1) (by omega) (by omega)
      have n1 := it_size (n := x.f2) (by omega) (by omega)
      have n2 := it_size (n := x.f3) (by omega) (by omega)
      have n3 := it_size (n := x.f7) (by omega) (by omega)
      have s0 := addM_size (hasB x.f0) 1 (out ++ nameS x.f0) (itS x.f1)
      have s1 := addM_size (hasB x.f0) 2 (addM (hasB x.f0) 1 (out ++ nameS x.f0) (itS x.f1)) (itS x.f2)
      have s2 := addM_size (hasB x.f0) 4 (addM (hasB x.f0) 2 (addM (hasB x.f0) 1 (out ++ nameS x.f0) (itS x.f1)) (itS x.f2)) (itS x.f3)
      have s3 := addM_size (hasB x.f0) 8 (addM (hasB x.f0) 4 (addM (hasB x.f0) 2 (addM (hasB x.f0) 1 (out ++ nameS x.f0) (itS x.f1)) (itS x.f2)) (itS x.f3)) (itS x.f7)
      have s4 := addM_size (hasB x.f0) 16 (addM (hasB x.f0) 8 (addM (hasB x.f0) 4 (addM (hasB x.f0) 2 (addM (hasB x.f0) 1 (out ++ nameS x.f0) (itS x.f1)) (itS x.f2)) (itS x.f3)) (itS x.f7)) (onS x.f6)
      have n4 := on_size x.f6
      obtain ⟨k, rfl⟩ : ∃ m, k = m + 10 := ⟨k - 10, by omega⟩
      rw [show (0 : Int) = ((0 : Nat) : Int) from rfl, l1_go (j := 0) (by decide) rfl rfl hn.1 (by omega) (by omega), ← addM_b (hasB x.f0) 0 1 rfl]
      rw [show 0 + 1 = 1 from rfl, l1_go (j := 1) (by decide) rfl rfl hN.1 (by omega) (by omega), ← addM_b (hasB x.f0) 1 2 rfl]
      rw [show 1 + 1 = 2 from rfl, l1_go (j := 2) (by decide) rfl rfl hK.1 (by omega) (by omega), ← addM_b (hasB x.f0) 2 4 rfl]
      rw [show 2 + 1 = 3 from rfl, l1_go (j := 3) (by decide) rfl rfl hT.1 (by omega) (by omega), ← addM_b (hasB x.f0) 3 8 rfl]
      rw [show ((3 + 1 : Nat) : Int) = 4 from rfl, l1_on _ _ _ _ _ _ _ _ (by omega), j5_end (by omega) _ _ _ _ _ _ _ _ hx.1 hx.2 (by omega)]
      have e1 : show1 out (toA x) = addM (hasB x.f0) 64 (addM (hasB x.f0) 32 (addM (hasB x.f0) 16 (addM (hasB x.f0) 8 (addM (hasB x.f0) 4 (addM (hasB x.f0) 2 (addM (hasB x.f0) 1 (out ++ nameS x.f0) (itS x.f1)) (itS x.f2)) (itS x.f3)) (itS x.f7)) (onS x.f6)) x.f4) (itS x.f5.size) ++ (⟨#[10]⟩ : ByteArray) := if_pos hr
      rw [← e1]
      exact ih k (i + 1) _ (by omega) (by omega) (by omega)
theorem rshow_f (L : List A) (hL : L.length ≤ 1000) (hf : ∀ x ∈ L, x.f4.size ≤ 900000 ∧ x.f5.size ≤ 900000) {k : Nat} (hk : 11 * L.length < k) : rivuletref23_Show.f k L = some (showL (L.map toA)) :=
  rshow_loop L hL hf L.length k 0 ⟨#[]⟩ (by omega) hk (by decide)
theorem fit_fit {L : List A} (hL : L.length ≤ 1000) (hf : ∀ x ∈ L, x.f4.size ≤ 900000 ∧ x.f5.size ≤ 900000) : fitA L = true := by
  unfold fitA
  simp only [Bool.and_eq_true, decide_eq_true_eq, List.all_eq_true]
  exact ⟨hL, hf⟩
theorem showT_f {L : List A} (hL : L.length ≤ 1000) (hf : ∀ x ∈ L, x.f4.size ≤ 900000 ∧ x.f5.size ≤ 900000) : script_Show.fT L = some (showL (L.map toA)) := if_pos (fit_fit hL hf)
theorem fit_big {L : List A} (h : ∀ x ∈ L, fit x) : ∀ x ∈ L, x.f4.size ≤ 900000 ∧ x.f5.size ≤ 900000 := fun x hx => by
  have := h x hx
  exact ⟨by have := this.1; omega, by have := this.2; omega⟩
end Go.Proofs.YtjjimkmbbifbjaaDoor.SR
