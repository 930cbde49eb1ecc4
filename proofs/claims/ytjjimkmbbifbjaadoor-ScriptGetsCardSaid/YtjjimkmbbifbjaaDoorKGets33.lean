import Derived.Test.YtjjimkmbbifbjaaDoorKGets31
import Derived.Test.YtjjimkmbbifbjaaDoorKGets13
import Derived.Test.YtjjimkmbbifbjaaDoorKGets20
import Derived.Test.YtjjimkmbbifbjaaDoorKGets21
import Derived.Test.YtjjimkmbbifbjaaDoorKGets32
namespace Go.Proofs.YtjjimkmbbifbjaaDoor.SP
open Go Go.RowKit Go.Shelf Go.Proofs.YtjjimkmbbifbjaaDoor Go.Proofs.YtjjimkmbbifbjaaDoor.SW Go.Proofs.YtjjimkmbbifbjaaDoor.VP Go.Proofs.YtjjimkmbbifbjaaDoor.VF Go.Proofs.YtjjimkmbbifbjaaDoor.TP Go.Proofs.YtjjimkmbbifbjaaDoor.Pv Go.Proofs.YtjjimkmbbifbjaaDoorW.PrintWords
section
variable {a n N K : Int} {s t : ByteArray} {b : Bool} {T : Int}
end
section
theorem rg_step {k i : Nat} {s : ByteArray} {a kd : Int} (hs : s.size ≤ 900000) (ha : 0 ≤ a) (hi : i < 4) (he : errN (hasB kd) s a i = 0) (hk : 60 ≤ k) :
    rivuletref23_Get.l0 (k + 1) s [fvN (hasB kd) s a i 0 0, fvN (hasB kd) s a i 1 0, fvN (hasB kd) s a i 2 0, fvN (hasB kd) s a i 3 0] (posN (hasB kd) s a i) (i : Int) kd 0 0 0 ⟨#[]⟩ ⟨#[]⟩ false 0 =
      if errN (hasB kd) s a (i + 1) = 0 then rivuletref23_Get.l0 k s [fvN (hasB kd) s a (i + 1) 0 0, fvN (hasB kd) s a (i + 1) 1 0, fvN (hasB kd) s a (i + 1) 2 0, fvN (hasB kd) s a (i + 1) 3 0] (posN (hasB kd) s a (i + 1)) ((i + 1 : Nat) : Int) kd 0 0 0 ⟨#[]⟩ ⟨#[]⟩ false 0 else some (zero10 (errN (hasB kd) s a (i + 1))) := by
  simp only [rivuletref23_Get.l0]
  rw [if_pos (show (i : Int) < 4 by omega), has_f kd (show i < 7 by omega), Option.bind_some, show wrap64 ((i : Int) + 1) = ((i + 1 : Nat) : Int) by rw [VF.w64 (by omega)]; rfl]
  cases hb : bH (hasB kd) i with
  | false =>
    rw [if_neg (by decide), errN_f he hb, if_pos rfl, posN_f hb, fv_f hb, fv_f hb, fv_f hb, fv_f hb]
  | true =>
    rw [if_pos rfl, rget_getS (by omega) _ hk, Option.bind_some, errN_t he hb, posN_t hb]
    by_cases hg : (getS s (posN (hasB kd) s a i)).2.2 = 0
    · rw [if_pos hg, if_pos hg]
      have b0 := get_bd (s := s) (posN (hasB kd) s a i)
      have hval : ∀ v, v = top1 (getS s (posN (hasB kd) s a i)).1 → ([fvN (hasB kd) s a i 0 0, fvN (hasB kd) s a i 1 0, fvN (hasB kd) s a i 2 0, fvN (hasB kd) s a i 3 0] : List Int).set (i : Int).toNat v = [fvN (hasB kd) s a (i + 1) 0 0, fvN (hasB kd) s a (i + 1) 1 0, fvN (hasB kd) s a (i + 1) 2 0, fvN (hasB kd) s a (i + 1) 3 0] := by
        intro v hv
        have hv2 : ∀ old, valN (hasB kd) s a i old = v := fun old => by rw [hv]; exact valN_t hb
        have hi' : i = 0 ∨ i = 1 ∨ i = 2 ∨ i = 3 := by omega
        rcases hi' with rfl | rfl | rfl | rfl
        · rw [fv_t _ _ _ 0, fv_o _ _ _ (show 1 ≠ 0 by decide), fv_o _ _ _ (show 2 ≠ 0 by decide), fv_o _ _ _ (show 3 ≠ 0 by decide), hv2]; rfl
        · rw [fv_t _ _ _ 1, fv_o _ _ _ (show 0 ≠ 1 by decide), fv_o _ _ _ (show 2 ≠ 1 by decide), fv_o _ _ _ (show 3 ≠ 1 by decide), hv2]; rfl
        · rw [fv_t _ _ _ 2, fv_o _ _ _ (show 0 ≠ 2 by decide), fv_o _ _ _ (show 1 ≠ 2 by decide), fv_o _ _ _ (show 3 ≠ 2 by decide), hv2]; rfl
        · rw [fv_t _ _ _ 3, fv_o _ _ _ (show 0 ≠ 3 by decide), fv_o _ _ _ (show 1 ≠ 3 by decide), fv_o _ _ _ (show 2 ≠ 3 by decide), hv2]; rfl
      have hlen : (i : Int) < (([fvN (hasB kd) s a i 0 0, fvN (hasB kd) s a i 1 0, fvN (hasB kd) s a i 2 0, fvN (hasB kd) s a i 3 0] : List Int).length : Int) := by simp; omega
      by_cases hm : (getS s (posN (hasB kd) s a i)).1 > 1099511627776
      · rw [if_pos hm, if_pos (show (0 : Int) ≤ (i : Int) by omega), if_pos hlen, hval _ (by unfold top1; rw [if_pos (by omega)])]
      · rw [if_neg hm, if_pos (show (0 : Int) ≤ (i : Int) by omega), if_pos hlen, VF.w64 (by omega), hval _ (by unfold top1; rw [if_neg (by omega)])]
    · rw [if_neg hg, if_neg hg]
      rfl
theorem rg_fin {k : Nat} {kd n N K T : Int} {s : ByteArray} (hs : s.size ≤ 900000) (hk : 2 * s.size + 80 ≤ k) (q : Int) (x y : ByteArray) (f : Bool) (hx : x.size ≤ s.size) : ((rivuletref23_Right.f k kd n N K x y f T).bind fun t244 => (if t244 = true then (some (kd, n, N, K, x, y, f, T, q, 0)) else (some (0, 0, 0, 0, (⟨#[]⟩ : ByteArray), (⟨#[]⟩ : ByteArray), false, 0, 0, 4)))) = some (getK4 kd n N K x y f T q) := by
  rw [rright_f kd n N K x y f T (by omega) (by omega), Option.bind_some]
  unfold getK4
  cases rightA kd n N K x y f T <;> rfl
theorem rg_j1 {k : Nat} {kd n N K T : Int} {s x : ByteArray} {f : Bool} (hs : s.size ≤ 900000) (hk : 2 * s.size + 80 ≤ k) (q q0 : Int) (hx : x.size ≤ s.size) (e1 : errT (hasB kd) s q0 1 = 0) (hq : posT (hasB kd) s q0 1 = q) :
    rivuletref23_rest.j1 (k + 1) s q kd n N K x ⟨#[]⟩ f T = some (if errT (hasB kd) s q0 2 = 0 then getK4 kd n N K x (valT (hasB kd) s q0 1 ⟨#[]⟩) f T (posT (hasB kd) s q0 2) else zero10 (errT (hasB kd) s q0 2)) := by
  simp only [rivuletref23_rest.j1, has6, Option.bind_some]
  cases h6 : bH (hasB kd) 6 with
  | false =>
    have e2 : errT (hasB kd) s q0 2 = 0 := errT_f (i := 1) e1 h6
    rw [if_neg (by decide), e2, if_pos rfl, show valT (hasB kd) s q0 1 ⟨#[]⟩ = ⟨#[]⟩ from valT_f (i := 1) h6, show posT (hasB kd) s q0 2 = q from (posT_f (i := 1) h6).trans hq]
    exact rg_fin hs hk q x _ f hx
  | true =>
    have e2 : errT (hasB kd) s q0 2 = (cutS s q).2.2 := (errT_t (i := 1) e1 h6).trans (by rw [hq])
    rw [if_pos rfl, rcut_cutS (by omega) _ (by omega), Option.bind_some, e2]
    by_cases hc : (cutS s q).2.2 = 0
    · rw [if_pos hc, if_pos hc, show valT (hasB kd) s q0 1 ⟨#[]⟩ = (cutS s q).1 from (valT_t (i := 1) h6).trans (by rw [hq]), show posT (hasB kd) s q0 2 = (cutS s q).2.1 from (posT_t (i := 1) h6).trans (by rw [hq])]
      exact rg_fin hs hk _ x _ f hx
    · rw [if_neg hc, if_neg hc]
      rfl
theorem rg_j0 {k : Nat} {kd n N K T : Int} {s : ByteArray} {f : Bool} (hs : s.size ≤ 900000) (hk : 2 * s.size + 80 ≤ k) (q : Int) :
    rivuletref23_rest.j0 (k + 2) s q kd n N K ⟨#[]⟩ ⟨#[]⟩ f T = some (if errT (hasB kd) s q 2 = 0 then getK4 kd n N K (valT (hasB kd) s q 0 ⟨#[]⟩) (valT (hasB kd) s q 1 ⟨#[]⟩) f T (posT (hasB kd) s q 2) else zero10 (errT (hasB kd) s q 2)) := by
  simp only [rivuletref23_rest.j0, has5, Option.bind_some]
  cases h5 : bH (hasB kd) 5 with
  | false =>
    rw [if_neg (by decide), show valT (hasB kd) s q 0 ⟨#[]⟩ = ⟨#[]⟩ from valT_f (i := 0) h5]
    exact rg_j1 hs hk q q (Nat.zero_le _) (errT_f (i := 0) rfl h5) (posT_f (i := 0) h5)
  | true =>
    have e1 : errT (hasB kd) s q 1 = (cutS s q).2.2 := errT_t (i := 0) rfl h5
    rw [if_pos rfl, rcut_cutS (by omega) _ (by omega), Option.bind_some]
    by_cases hc : (cutS s q).2.2 = 0
    · rw [if_pos hc, show valT (hasB kd) s q 0 ⟨#[]⟩ = (cutS s q).1 from valT_t (i := 0) h5]
      exact rg_j1 hs hk _ q (cutS_size s q) (e1.trans hc) (posT_t (i := 0) h5)
    · have e2 : errT (hasB kd) s q 2 = (cutS s q).2.2 := (errT_no (i := 1) (by rw [e1]; exact hc) 1).trans e1
      rw [if_neg hc, e2, if_neg hc]
      rfl
theorem rest_f {k : Nat} {kd n N K T : Int} {s : ByteArray} {p : Int} (hs : s.size ≤ 900000) (hp : 0 ≤ p ∧ p ≤ s.size) (hk : 2 * s.size + 100 ≤ k) :
    rivuletref23_rest.f k kd n N K ⟨#[]⟩ ⟨#[]⟩ false T s p = some (if errF (hasB kd) s p = 0 then (if errT (hasB kd) s (posF (hasB kd) p) 2 = 0 then getK4 kd n N K (valT (hasB kd) s (posF (hasB kd) p) 0 ⟨#[]⟩) (valT (hasB kd) s (posF (hasB kd) p) 1 ⟨#[]⟩) (valF (hasB kd) s p false) T (posT (hasB kd) s (posF (hasB kd) p) 2) else zero10 (errT (hasB kd) s (posF (hasB kd) p) 2)) else zero10 (errF (hasB kd) s p)) := by
  obtain ⟨k, rfl⟩ : ∃ m, k = m + 2 := ⟨k - 2, by omega⟩
  unfold rivuletref23_rest.f
  rw [has4, Option.bind_some]
  cases h4 : bH (hasB kd) 4 with
  | false =>
    rw [if_neg (by decide), show errF (hasB kd) s p = 0 from if_neg (by rw [h4]; decide), if_pos rfl, show posF (hasB kd) p = p from if_neg (by rw [h4]; decide), show valF (hasB kd) s p false = false from if_neg (by rw [h4]; decide)]
    exact rg_j0 hs (by omega) p
  | true =>
    rw [if_pos rfl, show errF (hasB kd) s p = _ from if_pos h4, show posF (hasB kd) p = p + 1 from if_pos h4, show valF (hasB kd) s p false = (bt s p == 1) from if_pos h4]
    by_cases hl : p = s.size
    · rw [if_pos hl, if_pos (show (s.size : Int) ≤ p by omega), if_neg (by decide)]
      rfl
    · rw [if_neg hl, if_pos hp.1, if_pos (show p < s.size by omega), if_neg (show ¬ (s.size : Int) ≤ p by omega)]
      by_cases hb : bt s p > 1
      · rw [if_pos hb, if_pos (show 1 < bt s p from hb), if_neg (by decide)]
        rfl
      · rw [if_neg hb, if_neg (show ¬ 1 < bt s p from hb), if_pos rfl, VF.w64 (by omega)]
        exact rg_j0 hs (by omega) _
theorem rg_end {k : Nat} {s : ByteArray} {a kd : Int} (hs : s.size ≤ 900000) (h0 : 0 ≤ a) (h1 : a ≤ s.size) (he : errN (hasB kd) s a 4 = 0) (hk : 2 * s.size + 100 ≤ k) :
    rivuletref23_Get.l0 (k + 1) s [fvN (hasB kd) s a 4 0 0, fvN (hasB kd) s a 4 1 0, fvN (hasB kd) s a 4 2 0, fvN (hasB kd) s a 4 3 0] (posN (hasB kd) s a 4) 4 kd 0 0 0 ⟨#[]⟩ ⟨#[]⟩ false 0 = some (getK2 kd s a (posN (hasB kd) s a 4)) := by
  have hp := posN_bd (h := hasB kd) h0 h1 4 he
  simp only [rivuletref23_Get.l0]
  rw [if_neg (by decide), if_pos (by simp), if_pos (by simp), if_pos (by simp), if_pos (by simp)]
  show ((rivuletref23_rest.f k kd (fvN (hasB kd) s a 4 0 0) (fvN (hasB kd) s a 4 1 0) (fvN (hasB kd) s a 4 2 0) ⟨#[]⟩ ⟨#[]⟩ false (fvN (hasB kd) s a 4 3 0) s (posN (hasB kd) s a 4)).bind fun bt255 => some (bt255.1, bt255.2.1, bt255.2.2.1, bt255.2.2.2.1, bt255.2.2.2.2.1, bt255.2.2.2.2.2.1, bt255.2.2.2.2.2.2.1, bt255.2.2.2.2.2.2.2.1, bt255.2.2.2.2.2.2.2.2.1, bt255.2.2.2.2.2.2.2.2.2)) = _
  rw [rest_f hs (by omega) hk, Option.bind_some]
  rfl
theorem rget_f (s : ByteArray) (hs : s.size ≤ 900000) (a : Int) {k : Nat} (hk : 2 * s.size + 120 ≤ k) : rivuletref23_Get.f k s a = some (getA s a) := by
  obtain ⟨k, rfl⟩ : ∃ m, k = m + 6 := ⟨k - 6, by omega⟩
  unfold rivuletref23_Get.f getA
  have no : rivuletref23_Get.j0 (k + 6) s a true = some (zero10 1) := by simp only [rivuletref23_Get.j0, if_true]; rfl
  by_cases h0 : a < 0
  · rw [if_pos h0, if_pos (.inl h0), no]
  · rw [if_neg h0]
    by_cases h1 : (s.size : Int) < a
    · rw [if_pos (show a < 0 ∨ (s.size : Int) < a from .inr h1), decide_eq_true (show a > s.size from h1), no]
    · rw [if_neg (show ¬ (a < 0 ∨ (s.size : Int) < a) by omega), decide_eq_false (show ¬ a > s.size from h1)]
      simp only [rivuletref23_Get.j0, Bool.false_eq_true, if_false]
      by_cases h2 : a = s.size
      · rw [if_pos h2, if_pos h2]; rfl
      · rw [if_neg h2, if_neg h2, if_pos (show 0 ≤ a by omega), if_pos (show a < s.size by omega)]
        have hbd := bt_bd s a
        by_cases h3 : bt s a > 10
        · rw [if_pos h3, if_pos (show 11 ≤ bt s a by omega)]; rfl
        · rw [if_neg h3, if_neg (show ¬ 11 ≤ bt s a by omega), VF.w64 (by omega), VF.w64 (by omega)]
          generalize bt s a = kd at *
          unfold getK
          have st := fun (i : Nat) (hi : i < 4) (he : errN (hasB kd) s (a + 1) i = 0) (j : Nat) (hj : 60 ≤ j) => rg_step (k := j) hs (show 0 ≤ a + 1 by omega) hi he hj
          have s0 := st 0 (by decide) rfl (k + 4) (by omega)
          have stop : ∀ i d, i + d = 4 → errN (hasB kd) s (a + 1) i ≠ 0 → errN (hasB kd) s (a + 1) 4 = errN (hasB kd) s (a + 1) i := fun i d hd hne => by rw [← hd]; exact errN_no hne d
          refine Eq.trans s0 ?_
          by_cases e1 : errN (hasB kd) s (a + 1) 1 = 0
          · rw [if_pos e1]
            refine Eq.trans (st 1 (by decide) e1 (k + 3) (by omega)) ?_
            by_cases e2 : errN (hasB kd) s (a + 1) 2 = 0
            · rw [if_pos e2]
              refine Eq.trans (st 2 (by decide) e2 (k + 2) (by omega)) ?_
              by_cases e3 : errN (hasB kd) s (a + 1) 3 = 0
              · rw [if_pos e3]
                refine Eq.trans (st 3 (by decide) e3 (k + 1) (by omega)) ?_
                by_cases e4 : errN (hasB kd) s (a + 1) 4 = 0
                · rw [if_pos e4, if_pos e4]
                  exact rg_end hs (by omega) (by omega) e4 (by omega)
                · rw [if_neg e4, if_neg e4]
              · have e4 := stop 3 1 rfl e3
                rw [if_neg e3, e4, if_neg e3]
            · have e4 := stop 2 2 rfl e2
              rw [if_neg e2, e4, if_neg e2]
          · have e4 := stop 1 3 rfl e1
            rw [if_neg e1, e4, if_neg e1]
end
end Go.Proofs.YtjjimkmbbifbjaaDoor.SP
