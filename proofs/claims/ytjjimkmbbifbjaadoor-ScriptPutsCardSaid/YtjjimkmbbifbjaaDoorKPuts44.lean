import Derived.Test.YtjjimkmbbifbjaaDoorKPuts42
import Derived.Test.YtjjimkmbbifbjaaDoorKPuts43
namespace Go.Proofs.YtjjimkmbbifbjaaDoor.SR
open Go Go.RowKit Go.Proofs.YtjjimkmbbifbjaaDoor Go.Proofs.YtjjimkmbbifbjaaDoor.VP Go.Proofs.YtjjimkmbbifbjaaDoor.VF Go.Proofs.YtjjimkmbbifbjaaDoor.SP Go.Proofs.YtjjimkmbbifbjaaDoor.SW Go.Proofs.YtjjimkmbbifbjaaDoor.Pr Go.Proofs.YtjjimkmbbifbjaaDoorW.PrintWords
def rA (x : A) : Bool := rightA x.f0 x.f1 x.f2 x.f3 x.f4 x.f5 x.f6 x.f7
def pA (x : A) : ByteArray := putA x.f0 x.f1 x.f2 x.f3 x.f4 x.f5 x.f6 x.f7
def cutA (x : A) : A := ⟨x.f0, x.f1, x.f2, x.f3, x.f4.extract 0 (mn (x.f4.size : Int) 150).toNat, x.f5.extract 0 (mn (x.f5.size : Int) 150).toNat, x.f6, x.f7⟩
theorem mn_cut (s : ByteArray) : 0 ≤ mn (s.size : Int) 150 ∧ mn (s.size : Int) 150 ≤ s.size ∧ mn (s.size : Int) 150 ≤ 150 := by unfold mn; split <;> omega
theorem cut_f (a n N K : Int) (s t : ByteArray) (b : Bool) (T : Int) : rivuletlaw23_cut.f a n N K s t b T = some (a, n, N, K, s.extract 0 (mn (s.size : Int) 150).toNat, t.extract 0 (mn (t.size : Int) 150).toNat, b, T) := by
  have h1 := mn_cut s
  have h2 := mn_cut t
  unfold rivuletlaw23_cut.f
  rw [if_pos h1.1, if_pos h1.2.1, if_pos h2.1, if_pos h2.2.1]
theorem ex_size (s : ByteArray) : (s.extract 0 (mn (s.size : Int) 150).toNat).size ≤ 150 := by
  have := mn_cut s
  rw [ByteArray.size_extract]
  omega
def fit (x : A) : Prop := x.f4.size ≤ 150 ∧ x.f5.size ≤ 150
theorem cut_fit (x : A) : fit (cutA x) := ⟨ex_size _, ex_size _⟩
theorem Cut_l0 (l : List A) : ∀ (d k i : Nat) (acc : List A), i + d = 40 → d < k → acc.length ≤ 40 → (∀ x ∈ acc, fit x) → acc.length = i → ∃ m, rivuletlaw23_Cut.l0 k l acc (i : Int) = some m ∧ m.length ≤ 40 ∧ ∀ x ∈ m, fit x := by
  intro d
  induction d with
  | zero =>
    intro k i acc hi hk ha hf hl
    obtain ⟨k, rfl⟩ : ∃ m, k = m + 1 := ⟨k - 1, by omega⟩
    refine ⟨acc, ?_, ha, hf⟩
    simp only [rivuletlaw23_Cut.l0]
    by_cases h : (i : Int) < l.length
    · rw [if_pos h, if_neg (by omega)]
    · rw [if_neg h]
  | succ d ih =>
    intro k i acc hi hk ha hf hl
    obtain ⟨k, rfl⟩ : ∃ m, k = m + 1 := ⟨k - 1, by omega⟩
    simp only [rivuletlaw23_Cut.l0]
    by_cases h : (i : Int) < l.length
    · rw [if_pos h, if_pos (by omega), if_pos (by omega), cut_f, Option.bind_some, if_pos (by omega), w1i (by omega)]
      refine ih k (i + 1) _ (by omega) (by omega) (by rw [List.length_append, List.length_singleton]; omega) ?_ (by rw [List.length_append, List.length_singleton]; omega)
      intro x hx
      rcases List.mem_append.1 hx with hx | hx
      · exact hf x hx
      · rw [List.mem_singleton.1 hx]
        exact cut_fit (rd_T23 l (i : Int))
    · rw [if_neg h]
      exact ⟨acc, rfl, ha, hf⟩
theorem Cut_f (l : List A) {k : Nat} (hk : 41 ≤ k) : ∃ m, rivuletlaw23_Cut.f k l = some m ∧ m.length ≤ 40 ∧ ∀ x ∈ m, fit x :=
  Cut_l0 l 40 k 0 [] rfl (by omega) (by simp) (by simp) rfl
def putAll (l : List A) : ByteArray := l.foldl (fun s x => s ++ pA x) ⟨#[]⟩
abbrev R8 := Int × Int × Int × Int × ByteArray × ByteArray × Bool × Int
def t8 (x : A) : R8 := (x.f0, x.f1, x.f2, x.f3, x.f4, x.f5, x.f6, x.f7)
def bareA (x : A) : A := ⟨kI (hasB x.f0) x.f0, cI (hasB x.f0) 0 x.f1, cI (hasB x.f0) 1 x.f2, cI (hasB x.f0) 2 x.f3, cS (hasB x.f0) 5 x.f4, cS (hasB x.f0) 6 x.f5, cB (hasB x.f0) 4 x.f6, cI (hasB x.f0) 3 x.f7⟩
theorem cut_t8 (a n N K : Int) (s t : ByteArray) (b : Bool) (T : Int) : rivuletlaw23_cut.f a n N K s t b T = some (t8 (cutA ⟨a, n, N, K, s, t, b, T⟩)) := cut_f a n N K s t b T
theorem bare_t8 (x : A) : script_Bare.f (t8 x).1 (t8 x).2.1 (t8 x).2.2.1 (t8 x).2.2.2.1 (t8 x).2.2.2.2.1 (t8 x).2.2.2.2.2.1 (t8 x).2.2.2.2.2.2.1 (t8 x).2.2.2.2.2.2.2 = some (t8 (bareA x)) := rfl
theorem put_t8 (x : A) (h : fit x) : script_Put.f (t8 x).1 (t8 x).2.1 (t8 x).2.2.1 (t8 x).2.2.2.1 (t8 x).2.2.2.2.1 (t8 x).2.2.2.2.2.1 (t8 x).2.2.2.2.2.2.1 (t8 x).2.2.2.2.2.2.2 = some (pA x) := if_pos (by have := h.1; show x.f4.size ≤ _; omega)
theorem right_t8 (x : A) (h : fit x) : script_Right.f (t8 x).1 (t8 x).2.1 (t8 x).2.2.1 (t8 x).2.2.2.1 (t8 x).2.2.2.2.1 (t8 x).2.2.2.2.2.1 (t8 x).2.2.2.2.2.2.1 (t8 x).2.2.2.2.2.2.2 = some (rA x) := if_pos (by have := h.1; show x.f4.size ≤ _; omega)
end Go.Proofs.YtjjimkmbbifbjaaDoor.SR
