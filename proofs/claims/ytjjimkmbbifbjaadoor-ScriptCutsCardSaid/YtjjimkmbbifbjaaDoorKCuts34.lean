import Derived.Test.YtjjimkmbbifbjaaDoorKCuts31
import Derived.Test.YtjjimkmbbifbjaaDoorKCuts30
import Derived.Test.YtjjimkmbbifbjaaDoorKCuts32
import Derived.Test.YtjjimkmbbifbjaaDoorKCuts29
namespace Go.Proofs.YtjjimkmbbifbjaaDoor.SR
open Go Go.RowKit Go.Proofs.YtjjimkmbbifbjaaDoor Go.Proofs.YtjjimkmbbifbjaaDoor.VP Go.Proofs.YtjjimkmbbifbjaaDoor.VF Go.Proofs.YtjjimkmbbifbjaaDoor.SP Go.Proofs.YtjjimkmbbifbjaaDoor.SW Go.Proofs.YtjjimkmbbifbjaaDoor.Pr Go.Proofs.YtjjimkmbbifbjaaDoorW.PrintWords
abbrev A := S23
theorem fixed_10 : rivuletlaw23_fixed.f 10 = some true := by
  have s : ∀ l : List A, fitA l = true → smallA l = true → ∀ b, SP.showL (l.map toA) = b → script_Show.f l = some b := fun l h1 h2 b hb => (if_pos ⟨h1, h2⟩).trans (congrArg some hb)
  have s1 := s [⟨4, 2, 0, 0, ⟨#[]⟩, ⟨#[]⟩, false, 0⟩, ⟨4, 2, 1, 0, ⟨#[]⟩, ⟨#[]⟩, false, 0⟩, ⟨0, 1, 3, 0, ⟨#[97, 47, 98]⟩, ⟨#[120, 121]⟩, false, 9⟩, ⟨3, 0, 1, 0, ⟨#[35]⟩, ⟨#[]⟩, true, 0⟩] (by decide) (by decide) _ show_fix
  unfold rivuletlaw23_fixed.f
  simp only [s1, VF.toList_eq]
  decide +kernel
theorem fixed_true {k : Nat} (hk : 10 ≤ k) : rivuletlaw23_fixed.f k = some true := by
  obtain ⟨d, rfl⟩ := Nat.exists_eq_add_of_le hk
  exact at_rounds rivuletlaw23_fixed.mono (Nat.le_add_right 10 d) fixed_10
def mk8 (r : R10) : A := ⟨r.1, r.2.1, r.2.2.1, r.2.2.2.1, r.2.2.2.2.1, r.2.2.2.2.2.1, r.2.2.2.2.2.2.1, r.2.2.2.2.2.2.2.1⟩
abbrev to10 (r : R10) : Int := r.2.2.2.2.2.2.2.2.1
abbrev er10 (r : R10) : Int := r.2.2.2.2.2.2.2.2.2
theorem ext8 {x y : A} (h : x.f0 = y.f0 ∧ x.f1 = y.f1 ∧ x.f2 = y.f2 ∧ x.f3 = y.f3 ∧ x.f4 = y.f4 ∧ x.f5 = y.f5 ∧ x.f6 = y.f6 ∧ x.f7 = y.f7) : x = y := by
  obtain ⟨a0, a1, a2, a3, a4, a5, a6, a7⟩ := x
  obtain ⟨b0, b1, b2, b3, b4, b5, b6, b7⟩ := y
  simp only at h
  obtain ⟨rfl, rfl, rfl, rfl, rfl, rfl, rfl, rfl⟩ := h
  rfl
instance decA : DecidableEq A := fun x y => decidable_of_iff (x.f0 = y.f0 ∧ x.f1 = y.f1 ∧ x.f2 = y.f2 ∧ x.f3 = y.f3 ∧ x.f4 = y.f4 ∧ x.f5 = y.f5 ∧ x.f6 = y.f6 ∧ x.f7 = y.f7) ⟨ext8, fun h => by subst h; exact ⟨rfl, rfl, rfl, rfl, rfl, rfl, rfl, rfl⟩⟩
end Go.Proofs.YtjjimkmbbifbjaaDoor.SR
