import Derived.DeepKeys
import Derived.ChangeKeysEq
import Derived.Test.YtkiepnmbimkadaaKRecovers1
namespace Go.Proofs.Ytkiepnmbimkadaa.DK
open Go.RowKit Go.Proofs.Ytkiepnmbimkadaa
theorem under48 : Try.prog.underlying 58 = some (.array 4 9) := by kernel_rfl
theorem under9 : Try.prog.underlying 9 = some .string := by kernel_rfl
theorem cells9 : Try.prog.cellsOf 9 = 1 := by kernel_rfl
theorem part9 (s0 s1 s2 s3 : ByteArray) (w : World) : (part 9 #[.string s0, .string s1, .string s2, .string s3] 0).run Try.prog w = .ok (.string s0) w ∧ (part 9 #[.string s0, .string s1, .string s2, .string s3] 1).run Try.prog w = .ok (.string s1) w ∧
    (part 9 #[.string s0, .string s1, .string s2, .string s3] 2).run Try.prog w = .ok (.string s2) w ∧ (part 9 #[.string s0, .string s1, .string s2, .string s3] 3).run Try.prog w = .ok (.string s3) w := ⟨by kernel_rfl, by kernel_rfl, by kernel_rfl, by kernel_rfl⟩
theorem eq_four (n r : Four) : ∃ b : Bool, (∀ w : World, (Op.equalIn 10000 58 (.agg #[.string n.a, .string n.b, .string n.c, .string n.d]) (.agg #[.string r.a, .string r.b, .string r.c, .string r.d])).run Try.prog w = .ok b w) ∧ (b = true → n = r) := by
  obtain ⟨i9, hi9⟩ : ∃ i, Try.prog.info? 9 = some i := by
    cases h : Try.prog.info? 9 with
    | some i => exact ⟨i, rfl⟩
    | none =>
      have h2 : (Try.prog.info? 9).isSome = true := by kernel_rfl
      rw [h] at h2
      cases h2
  refine ⟨(n.a.toList == r.a.toList) && ((n.b.toList == r.b.toList) && ((n.c.toList == r.c.toList) && (n.d.toList == r.d.toList))), fun w => ?_, fun hb => ?_⟩
  · rw [run_equalIn_array w 9999 _ _ under48 hi9, cells9]
    obtain ⟨p0, p1, p2, p3⟩ := part9 n.a n.b n.c n.d w
    obtain ⟨q0, q1, q2, q3⟩ := part9 r.a r.b r.c r.d w
    have e0 : (Op.equalIn 9999 9 (.string n.a) (.string r.a)).run Try.prog w = .ok (n.a.toList == r.a.toList) w := run_equalIn_string (P := Try.prog) w 9998 9 n.a r.a under9
    have e1 : (Op.equalIn 9999 9 (.string n.b) (.string r.b)).run Try.prog w = .ok (n.b.toList == r.b.toList) w := run_equalIn_string (P := Try.prog) w 9998 9 n.b r.b under9
    have e2 : (Op.equalIn 9999 9 (.string n.c) (.string r.c)).run Try.prog w = .ok (n.c.toList == r.c.toList) w := run_equalIn_string (P := Try.prog) w 9998 9 n.c r.c under9
    have e3 : (Op.equalIn 9999 9 (.string n.d) (.string r.d)).run Try.prog w = .ok (n.d.toList == r.d.toList) w := run_equalIn_string (P := Try.prog) w 9998 9 n.d r.d under9
    simp only [show List.range 4 = [0, 1, 2, 3] from rfl, Op.eqItems, Nat.mul_one, Sem.run_bind, p0, q0, e0, Result.andThen_ok]
    generalize (n.a.toList == r.a.toList) = b0 at *
    generalize (n.b.toList == r.b.toList) = b1 at *
    generalize (n.c.toList == r.c.toList) = b2 at *
    generalize (n.d.toList == r.d.toList) = b3 at *
    cases b0
    · simp
    cases b1
    · simp [p1, q1, e1]
    cases b2
    · simp [p1, q1, e1, p2, q2, e2]
    cases b3 <;> simp [p1, q1, e1, p2, q2, e2, p3, q3, e3]
  · simp only [Bool.and_eq_true, beq_iff_eq] at hb
    obtain ⟨h0, h1, h2, h3⟩ := hb
    have hin : ∀ a b : ByteArray, a.toList = b.toList → a = b := fun a b h => by
      have := beq_toListBytes a b
      rw [h, beq_self_eq_true] at this
      have h2 : a.data = b.data := eq_of_beq (this : (a.data == b.data) = true)
      exact ByteArray.ext h2
    obtain ⟨n0, n1, n2, n3⟩ := n
    obtain ⟨r0, r1, r2, r3⟩ := r
    simp only at h0 h1 h2 h3
    rw [hin _ _ h0, hin _ _ h1, hin _ _ h2, hin _ _ h3]
end Go.Proofs.Ytkiepnmbimkadaa.DK
