import Derived.Test.YtjjimkmbbifbjaaDoorKBack31
import Derived.Test.YtjjimkmbbifbjaaDoorKBack30
import Derived.Test.YtjjimkmbbifbjaaDoorKBack32
import Derived.Test.YtjjimkmbbifbjaaDoorKBack29
namespace Go.Proofs.YtjjimkmbbifbjaaDoor.SR
open Go Go.RowKit Go.Proofs.YtjjimkmbbifbjaaDoor Go.Proofs.YtjjimkmbbifbjaaDoor.VP Go.Proofs.YtjjimkmbbifbjaaDoor.VF Go.Proofs.YtjjimkmbbifbjaaDoor.SP Go.Proofs.YtjjimkmbbifbjaaDoor.SW Go.Proofs.YtjjimkmbbifbjaaDoor.Pr Go.Proofs.YtjjimkmbbifbjaaDoorW.PrintWords
abbrev A := S23
theorem fixed_10 : rivuletlaw23_fixed.f 10 = some true := by
  have s : ∀ l : List A, fitA l = true → smallA l = true → ∀ b, SP.showL (l.map toA) = b → script_Show.f l = some b := fun l h1 h2 b hb => (if_pos ⟨h1, h2⟩).trans (congrArg some hb)
  have s1 := s [⟨4, 2, 0, 0, ⟨#[]⟩, ⟨#[]⟩, false, 0⟩, ⟨4, 2, 1, 0, ⟨#[]⟩, ⟨#[]⟩, false, 0⟩, ⟨0, 1, 3, 0, ⟨#[97, 47, 98]⟩, ⟨#[120, 121]⟩, false, 9⟩, ⟨3, 0, 1, 0, ⟨#[35]⟩, ⟨#[]⟩, true, 0⟩] (by decide) (by decide) _ show_fix
  unfold rivuletlaw23_fixed.f
  simp only [s1, VF.toList_eq]
  decide +kernel
theorem fixed_true {k : Nat} (hk : 10 ≤ k) : rivuletlaw23_fixed.f k = some true := by
  obtain ⟨d, rfl⟩ := Nat.exists_eq_add_of_le hk
  exact at_rounds rivuletlaw23_fixed.mono (Nat.le_add_right 10 d) fixed_10
def mk8 (r : R10) : A := ⟨r.1, r.2.1, r.2.2.1, r.2.2.2.1, r.2.2.2.2.1, r.2.2.2.2.2.1, r.2.2.2.2.2.2.1, r.2.2.2.2.2.2.2.1⟩
abbrev to10 (r : R10) : Int := r.2.2.2.2.2.2.2.2.1
abbrev er10 (r : R10) : Int := r.2.2.2.2.2.2.2.2.2
theorem cutS_bd {s : ByteArray} {a : Int} (h0 : 0 ≤ a) (h : (cutS s a).2.2 = 0) : a ≤ (cutS s a).2.1 ∧ (cutS s a).2.1 ≤ s.size := by
  unfold cutS at h ⊢
  by_cases hg : (getS s a).2.2 = 0
  · rw [if_pos hg] at h ⊢
    rcases getS_cases s a with g | ⟨n, p, hp, g, _, hz, n0, _⟩
    · exact absurd hg g.1
    · by_cases h1 : (getS s a).1 > 65536
      · rw [if_pos h1] at h
        exact absurd h (by decide)
      · rw [if_neg h1] at h ⊢
        by_cases h2 : (s.size : Int) - (getS s a).2.1 < (getS s a).1
        · rw [if_pos h2] at h
          exact absurd h (by decide)
        · rw [if_neg h2]
          rw [g] at h2 ⊢
          simp only at h2 ⊢
          omega
  · rw [if_neg hg] at h
    exact absurd h hg
theorem posT_bd {h : Int} {s : ByteArray} {a : Int} (h0 : 0 ≤ a) (h1 : a ≤ s.size) : ∀ i, errT h s a i = 0 → a ≤ posT h s a i ∧ posT h s a i ≤ s.size
  | 0, _ => ⟨Int.le_refl _, h1⟩
  | i + 1, he => by
    by_cases e0 : errT h s a i = 0
    · have ih := posT_bd h0 h1 i e0
      cases hb : bH h (5 + i) with
      | false => rw [posT_f hb]; exact ih
      | true =>
        rw [errT_t e0 hb] at he
        rw [posT_t hb]
        have := cutS_bd (by omega) he
        omega
    · exact absurd ((errT_no e0 1).symm.trans he) e0
theorem posF_bd {h : Int} {s : ByteArray} {a : Int} (h1 : a ≤ s.size) (he : errF h s a = 0) : a ≤ posF h a ∧ posF h a ≤ s.size := by
  unfold errF at he
  unfold posF
  cases hb : bH h 4 with
  | false => rw [if_neg (by decide)]; omega
  | true =>
    rw [hb, if_pos rfl] at he
    rw [if_pos rfl]
    by_cases hl : (s.size : Int) ≤ a
    · rw [if_pos hl] at he; exact absurd he (by decide)
    · omega
theorem get_ok {s : ByteArray} {a : Int} (h : er10 (getA s a) = 0) : 0 ≤ a ∧ a < s.size ∧ bt s a < 11 ∧ errN (hasB (bt s a)) s (a + 1) 4 = 0 ∧ errF (hasB (bt s a)) s (posN (hasB (bt s a)) s (a + 1) 4) = 0 ∧ errT (hasB (bt s a)) s (posF (hasB (bt s a)) (posN (hasB (bt s a)) s (a + 1) 4)) 2 = 0 ∧
    (mk8 (getA s a)).f0 = bt s a ∧ rightA (mk8 (getA s a)).f0 (mk8 (getA s a)).f1 (mk8 (getA s a)).f2 (mk8 (getA s a)).f3 (mk8 (getA s a)).f4 (mk8 (getA s a)).f5 (mk8 (getA s a)).f6 (mk8 (getA s a)).f7 = true ∧
    (mk8 (getA s a)).f1 = valN (hasB (bt s a)) s (a + 1) 0 0 ∧ (mk8 (getA s a)).f2 = valN (hasB (bt s a)) s (a + 1) 1 0 ∧ (mk8 (getA s a)).f3 = valN (hasB (bt s a)) s (a + 1) 2 0 ∧ (mk8 (getA s a)).f7 = valN (hasB (bt s a)) s (a + 1) 3 0 ∧
    (mk8 (getA s a)).f6 = valF (hasB (bt s a)) s (posN (hasB (bt s a)) s (a + 1) 4) false ∧ (mk8 (getA s a)).f4 = valT (hasB (bt s a)) s (posF (hasB (bt s a)) (posN (hasB (bt s a)) s (a + 1) 4)) 0 ⟨#[]⟩ ∧ (mk8 (getA s a)).f5 = valT (hasB (bt s a)) s (posF (hasB (bt s a)) (posN (hasB (bt s a)) s (a + 1) 4)) 1 ⟨#[]⟩ ∧
    to10 (getA s a) = posT (hasB (bt s a)) s (posF (hasB (bt s a)) (posN (hasB (bt s a)) s (a + 1) 4)) 2 := by
  unfold getA at h ⊢
  by_cases h1 : a < 0 ∨ (s.size : Int) < a
  · rw [if_pos h1] at h; exact absurd h (show ¬ ((1 : Int) = 0) by decide)
  · rw [if_neg h1] at h ⊢
    by_cases h2 : a = s.size
    · rw [if_pos h2] at h; exact absurd h (show ¬ ((3 : Int) = 0) by decide)
    · rw [if_neg h2] at h ⊢
      by_cases h3 : 11 ≤ bt s a
      · rw [if_pos h3] at h; exact absurd h (show ¬ ((6 : Int) = 0) by decide)
      · rw [if_neg h3] at h ⊢
        unfold getK at h ⊢
        by_cases e1 : errN (hasB (bt s a)) s (a + 1) 4 = 0
        · rw [if_pos e1] at h ⊢
          unfold getK2 at h ⊢
          by_cases e2 : errF (hasB (bt s a)) s (posN (hasB (bt s a)) s (a + 1) 4) = 0
          · rw [if_pos e2] at h ⊢
            unfold getK3 at h ⊢
            by_cases e3 : errT (hasB (bt s a)) s (posF (hasB (bt s a)) (posN (hasB (bt s a)) s (a + 1) 4)) 2 = 0
            · rw [if_pos e3] at h ⊢
              unfold getK4 at h ⊢
              split at h
              · rename_i hr
                rw [if_pos hr]
                exact ⟨by omega, by omega, by omega, e1, e2, e3, rfl, hr, rfl, rfl, rfl, rfl, rfl, rfl, rfl, rfl⟩
              · exact absurd h (show ¬ ((4 : Int) = 0) by decide)
            · rw [if_neg e3] at h; exact absurd h e3
          · rw [if_neg e2] at h; exact absurd h e2
        · rw [if_neg e1] at h; exact absurd h e1
theorem get_bds {s : ByteArray} {a : Int} (h : er10 (getA s a) = 0) : 0 ≤ a ∧ a < to10 (getA s a) ∧ to10 (getA s a) ≤ s.size := by
  obtain ⟨a0, a1, _, e1, e2, e3, _, _, _, _, _, _, _, _, _, ht⟩ := get_ok h
  have b1 := posN_bd (h := hasB (bt s a)) (s := s) (a := a + 1) (by omega) (by omega) 4 e1
  have b2 := posF_bd b1.2 e2
  have b3 := posT_bd (h := hasB (bt s a)) (s := s) (by omega) b2.2 2 e3
  rw [ht]
  omega
inductive Rds (s : ByteArray) : Int → List A → Int → Prop
  | done (p : Int) (h : er10 (getA s p) ≠ 0) : Rds s p [] p
  | more (p : Int) (l : List A) (q : Int) (h : er10 (getA s p) = 0) (r : Rds s (to10 (getA s p)) l q) : Rds s p (mk8 (getA s p) :: l) q
theorem rds_some (s : ByteArray) : ∀ (d : Nat) (p : Int), 0 ≤ p → p ≤ s.size → s.size - p ≤ d → ∃ l q, Rds s p l q ∧ (l.length : Int) ≤ s.size - p ∧ p ≤ q ∧ q ≤ s.size
  | 0, p, h0, h1, h2 => by
    refine ⟨[], p, .done p fun h => ?_, by simp; omega, Int.le_refl _, h1⟩
    have := get_bds h
    omega
  | d + 1, p, h0, h1, h2 => by
    by_cases h : er10 (getA s p) = 0
    · have b := get_bds h
      obtain ⟨l, q, hr, hl, hq, hq2⟩ := rds_some s d (to10 (getA s p)) (by omega) (by omega) (by omega)
      exact ⟨_, q, .more p l q h hr, by simp only [List.length_cons]; omega, by omega, hq2⟩
    · exact ⟨[], p, .done p h, by simp; omega, Int.le_refl _, h1⟩
theorem all_loop {s : ByteArray} (hs : s.size ≤ 900000) {p : Int} {l : List A} {q : Int} (h : Rds s p l q) : ∀ (acc : List A) (k : Nat), acc.length + l.length ≤ 1000000 → l.length < k → script_All.l0 k s acc p = some (acc ++ l, q) := by
  induction h with
  | done p h =>
    intro acc k _ hk
    obtain ⟨k, rfl⟩ : ∃ m, k = m + 1 := ⟨k - 1, by omega⟩
    simp only [script_All.l0]
    rw [show script_Get.f s p = some (getA s p) from if_pos hs, Option.bind_some, if_neg h, List.append_nil]
  | more p l q h r ih =>
    intro acc k ha hk
    rw [List.length_cons] at ha hk
    obtain ⟨k, rfl⟩ : ∃ m, k = m + 1 := ⟨k - 1, by omega⟩
    simp only [script_All.l0]
    rw [show script_Get.f s p = some (getA s p) from if_pos hs, Option.bind_some, if_pos h, if_pos (by omega)]
    have := ih (acc ++ [mk8 (getA s p)]) k (by rw [List.length_append, List.length_singleton]; omega) (by omega)
    rw [List.append_assoc] at this
    exact this
theorem all_f {s : ByteArray} (hs : s.size ≤ 900000) {l : List A} {q : Int} (h : Rds s 0 l q) {k : Nat} (hl : l.length ≤ 1000000) (hk : l.length < k) : script_All.f k s = some (l, q) :=
  all_loop hs h [] k (by simp; omega) hk
theorem ext8 {x y : A} (h : x.f0 = y.f0 ∧ x.f1 = y.f1 ∧ x.f2 = y.f2 ∧ x.f3 = y.f3 ∧ x.f4 = y.f4 ∧ x.f5 = y.f5 ∧ x.f6 = y.f6 ∧ x.f7 = y.f7) : x = y := by
  obtain ⟨a0, a1, a2, a3, a4, a5, a6, a7⟩ := x
  obtain ⟨b0, b1, b2, b3, b4, b5, b6, b7⟩ := y
  simp only at h
  obtain ⟨rfl, rfl, rfl, rfl, rfl, rfl, rfl, rfl⟩ := h
  rfl
instance decA : DecidableEq A := fun x y => decidable_of_iff (x.f0 = y.f0 ∧ x.f1 = y.f1 ∧ x.f2 = y.f2 ∧ x.f3 = y.f3 ∧ x.f4 = y.f4 ∧ x.f5 = y.f5 ∧ x.f6 = y.f6 ∧ x.f7 = y.f7) ⟨ext8, fun h => by subst h; exact ⟨rfl, rfl, rfl, rfl, rfl, rfl, rfl, rfl⟩⟩
theorem same_bool (x y : A) : (!(x.f0 == y.f0) || (!(x.f1 == y.f1) || (!(x.f2 == y.f2) || (!(x.f3 == y.f3) || (!(x.f4.toList == y.f4.toList) || (!(x.f5.toList == y.f5.toList) || (!(x.f6 == y.f6) || !(x.f7 == y.f7)))))))) = !decide (x = y) := by
  by_cases h : x = y
  · subst h; simp
  · rw [decide_eq_false h]
    by_cases hl : (!(x.f0 == y.f0) || (!(x.f1 == y.f1) || (!(x.f2 == y.f2) || (!(x.f3 == y.f3) || (!(x.f4.toList == y.f4.toList) || (!(x.f5.toList == y.f5.toList) || (!(x.f6 == y.f6) || !(x.f7 == y.f7)))))))) = true
    · rw [hl]; rfl
    · exfalso
      apply h
      simp only [Bool.or_eq_true, Bool.not_eq_true', beq_eq_false_iff_ne, not_or, Decidable.not_not, toList_inj, ne_eq] at hl
      exact ext8 hl
theorem rd23 (l : List A) {i : Nat} (h : i < l.length) : rd_T23 l (i : Int) = l[i]'h := by
  unfold rd_T23
  rw [Int.toNat_natCast, List.getD_eq_getElem?_getD, List.getElem?_eq_getElem h]
  rfl
theorem w1i {i : Nat} (h : i ≤ 4611686018427387904) : wrap64 ((i : Int) + 1) = ((i + 1 : Nat) : Int) := by rw [VF.w64 (by omega)]; rfl
theorem same_loop (l m : List A) (hl : l.length = m.length) (hb : l.length ≤ 1000000) : ∀ (d k i : Nat), i + d = l.length → d < k → rivuletref23_Same.l0 k l m i = some (decide (l.drop i = m.drop i)) := by
  intro d
  induction d with
  | zero =>
    intro k i hi hk
    obtain ⟨k, rfl⟩ : ∃ m, k = m + 1 := ⟨k - 1, by omega⟩
    simp only [rivuletref23_Same.l0]
    rw [if_neg (by omega), List.drop_of_length_le (by omega), List.drop_of_length_le (by omega)]
    rfl
  | succ d ih =>
    intro k i hi hk
    obtain ⟨k, rfl⟩ : ∃ m, k = m + 1 := ⟨k - 1, by omega⟩
    simp only [rivuletref23_Same.l0]
    rw [if_pos (by omega), if_pos (by omega), if_pos (by omega), rd23 l (by omega), rd23 m (by omega), same_bool, List.drop_eq_getElem_cons (show i < l.length by omega), List.drop_eq_getElem_cons (show i < m.length by omega)]
    by_cases h : l[i]'(by omega) = m[i]'(by omega)
    · rw [decide_eq_true h, if_neg (by decide), w1i (by omega), ih k (i + 1) (by omega) (by omega)]
      congr 1
      rw [decide_eq_decide, List.cons.injEq]
      exact ⟨fun g => ⟨h, g⟩, fun g => g.2⟩
    · rw [decide_eq_false h, if_pos (by decide), decide_eq_false (fun g => h (List.cons.inj g).1)]
theorem same_f (l m : List A) (hb : l.length ≤ 1000000) {k : Nat} (hk : l.length < k) : rivuletref23_Same.f k l m = some (decide (l = m)) := by
  unfold rivuletref23_Same.f
  by_cases h : l.length = m.length
  · rw [if_pos (by omega)]
    have := same_loop l m h hb l.length k 0 (by omega) hk
    rw [List.drop_zero, List.drop_zero] at this
    exact this
  · rw [if_neg (by omega), decide_eq_false (fun g => h (by rw [g]))]
end Go.Proofs.YtjjimkmbbifbjaaDoor.SR
