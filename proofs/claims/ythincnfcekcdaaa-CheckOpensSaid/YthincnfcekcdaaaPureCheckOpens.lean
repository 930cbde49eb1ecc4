/-
  What stands sealed at any place of any bytes, or what is wrong, and all that stands sealed one behind the other, is what the document says (texts cut to 500 bytes).
-/
import Derived.Test.YthincnfcekcdaaaChkFns
import Derived.Test.YthincnfcekcdaaaChkFixed
import Derived.Test.YthincnfcekcdaaaPr3
import Derived.Test.YthincnfcekcdaaaPr7
namespace Go.Proofs.Ythincnfcekcdaaa.Pure
open Go.RowKit Go.Proofs.Ythincnfcekcdaaa Go.Proofs.Ythincnfcekcdaaa.Pr Go.Proofs.Ythincnfcekcdaaa.VP Go.Proofs.Ythincnfcekcdaaa.VF Go.Proofs.Ythincnfcekcdaaa.CP Go.Proofs.Ythincnfcekcdaaa.CF Go.Proofs.YthincnfcekcdaaaW.PrintWords Go.Proofs.YthincnfcekcdaaaW.PrintLast Go.Proofs.YthincnfcekcdaaaW.PrintMore

theorem all_length {s : ByteArray} (hs : s.size ≤ 140737488351232) : ∀ (d k p : Nat) (acc : List ByteArray) (r : List ByteArray × Int), s.size ≤ p + d → check_All.l0 k s acc p = some r → 20 + d ≤ k → r.1.length ≤ acc.length + d := by
  intro d
  induction d with
  | zero =>
    intro k p acc r hp h hk
    obtain ⟨k, rfl⟩ : ∃ m, k = m + 1 := ⟨k - 1, by omega⟩
    simp only [check_All.l0] at h
    rw [if_neg (by omega)] at h
    obtain rfl := Option.some.inj h
    simp
  | succ d ih =>
    intro k p acc r hp h hk
    obtain ⟨k, rfl⟩ : ∃ m, k = m + 1 := ⟨k - 1, by omega⟩
    simp only [check_All.l0] at h
    by_cases g : (p : Int) < s.size
    · rw [if_pos g, open_f hs _ (by omega), Option.bind_some] at h
      rcases openS_cases s p with ⟨x, hx, e⟩ | ⟨q, x, hq, h1, h2, h3, e⟩
      · rw [e] at h
        simp only [] at h
        rw [if_neg hx] at h
        obtain rfl := Option.some.inj h
        simp
      · obtain rfl : p = q := by omega
        have hl := seal_length x
        rw [e] at h
        simp only [if_true] at h
        by_cases z : acc.length < 8796093022208
        · rw [if_pos z] at h
          have := ih k (p + (sealB x).length) _ r (by omega) h (by omega)
          rw [List.length_append] at this
          simp at this
          omega
        · rw [if_neg z] at h
          exact absurd h (by simp)
    · rw [if_neg g] at h
      obtain rfl := Option.some.inj h
      simp
theorem CheckOpens : rivuletlaw02_CheckOpens.Pure := by
  intro s a hs _
  refine ⟨3000, ?_⟩
  unfold rivuletlaw02_CheckOpens.f
  have m1 := mn_bd (a := (s.size : Int)) (b := 500) (by omega) (by omega)
  have z1 := cut_size s (mn s.size 500)
  rw [if_pos m1.1, if_pos m1.2.1]
  generalize s.extract 0 (mn s.size 500).toNat = t at *
  obtain ⟨r, h1, h2⟩ := all_both (s := t) (by omega) t.size 3000 0 [] (by omega) (by omega) (by simp; omega)
  have h3 := all_length (s := t) (by omega) t.size 3000 0 [] r (by omega) h1 (by omega)
  have e1 : check_All.f 3000 t = some r := h1
  have e2 : rivuletref02_All.f 3000 t = some r := h2
  have hl : r.1.length ≤ t.size := by simpa using h3
  rw [open_f (by omega) a (by omega), Option.bind_some, ropen_f (by omega) a (by omega), Option.bind_some, e1, Option.bind_some, e2, Option.bind_some, if_pos rfl, if_pos rfl, if_pos rfl, same_f _ _ (by omega) (by omega), Option.bind_some]
  simp only [decide_true, if_true]
  rw [fixed_f (by omega)]
  rfl
end Go.Proofs.Ythincnfcekcdaaa.Pure
