import Derived.Test.YtjjimkmbbifbjaaDoorKCuts33
import Derived.Test.YtjjimkmbbifbjaaDoorKCuts36
namespace Go.Proofs.YtjjimkmbbifbjaaDoor.Pure
open Go Go.RowKit Go.Proofs.YtjjimkmbbifbjaaDoor Go.Proofs.YtjjimkmbbifbjaaDoor.VF Go.Proofs.YtjjimkmbbifbjaaDoor.SP Go.Proofs.YtjjimkmbbifbjaaDoor.SR Go.Proofs.YtjjimkmbbifbjaaDoor.Pr Go.Proofs.YtjjimkmbbifbjaaDoorW.PrintWords
theorem fixed_bind {k : Nat} (hk : 10 ≤ k) : ((rivuletlaw23_fixed.f k).bind fun t => some t) = some true := by rw [fixed_true hk]; rfl
theorem ScriptCuts (a0 a1 a2 a3 : Int) (a4 a5 : ByteArray) (a6 : Bool) (a7 : Int) (b0 b1 b2 b3 : Int) (b4 b5 : ByteArray) (b6 : Bool) (b7 : Int) (j : Int)
    (_ : (Lit.int .i64 a0).wf = true) (_ : (Lit.int .i64 a1).wf = true) (_ : (Lit.int .i64 a2).wf = true) (_ : (Lit.int .i64 a3).wf = true) (_ : a4.size ≤ maxLen) (_ : a5.size ≤ maxLen) (_ : (Lit.int .i64 a7).wf = true)
    (_ : (Lit.int .i64 b0).wf = true) (_ : (Lit.int .i64 b1).wf = true) (_ : (Lit.int .i64 b2).wf = true) (_ : (Lit.int .i64 b3).wf = true) (_ : b4.size ≤ maxLen) (_ : b5.size ≤ maxLen) (_ : (Lit.int .i64 b7).wf = true) (_ : (Lit.int .i64 j).wf = true) :
    ∃ k, rivuletlaw23_ScriptCuts.f k a0 a1 a2 a3 a4 a5 a6 a7 b0 b1 b2 b3 b4 b5 b6 b7 j = some true := by
  refine ⟨20, ?_⟩
  unfold rivuletlaw23_ScriptCuts.f
  have fa := fit_bare (cut_fit ⟨a0, a1, a2, a3, a4, a5, a6, a7⟩)
  have fb := fit_bare (cut_fit ⟨b0, b1, b2, b3, b4, b5, b6, b7⟩)
  rw [cut_t8, Option.bind_some, bare_t8, Option.bind_some, cut_t8, Option.bind_some, bare_t8, Option.bind_some, put_t8 _ fa, Option.bind_some, put_t8 _ fb, Option.bind_some, right_t8 _ fa, Option.bind_some]
  generalize bareA (cutA ⟨a0, a1, a2, a3, a4, a5, a6, a7⟩) = a at *
  generalize bareA (cutA ⟨b0, b1, b2, b3, b4, b5, b6, b7⟩) = b at *
  have h40 := fa.1
  have h41 := fb.1
  cases ha : rA a with
  | false => rw [if_neg (by decide), if_pos (pA_list.2 ha), fixed_bind (by decide)]
  | true =>
    have hp := pL_pos a
    have hs := pA_size ha
    have hle := pA_le fa
    rw [if_pos rfl, if_neg (by omega)]
    obtain ⟨m, hm, hlt⟩ := tmod_bd (bits_nonneg j) (show 0 < (pA a).size by omega)
    rw [hm, if_pos (by omega), if_pos (by omega), Int.toNat_natCast]
    have hd : (bytesOf ((pA a).extract 0 m)).drop 0 = (pL a).take m := by rw [bytes_extract, List.drop_zero, List.drop_zero, Nat.sub_zero, pA_bytes ha]
    have hz : ((pA a).extract 0 m).size ≤ 900000 := by rw [ByteArray.size_extract]; omega
    have h3 : er10 (getA ((pA a).extract 0 m) 0) = 3 := getA_short (p := 0) ha (by omega) (Nat.zero_le _) (by rw [hs] at hlt; exact hlt) hd
    rw [show script_Get.f ((pA a).extract 0 m) 0 = some (getA ((pA a).extract 0 m) 0) from if_pos hz, Option.bind_some, if_pos h3]
    by_cases hl : ((pA b).size : Int) < (pA a).size
    · rw [if_pos hl, fixed_bind (by decide)]
    · rw [if_neg hl, if_pos (by omega), if_pos (by omega), Int.toNat_natCast]
      by_cases he : ((pA b).extract 0 (pA a).size).toList = (pA a).toList
      · rw [if_pos he]
        have hx := VF.toList_inj.1 he
        have hb : rA b = true := by
          cases h : rA b with
          | true => rfl
          | false =>
            rw [pA_none h] at hl
            have : (⟨#[]⟩ : ByteArray).size = 0 := rfl
            omega
        have ht : (pL b).take (pL a).length = pL a := by
          have := congrArg bytesOf hx
          rw [bytes_extract, List.drop_zero, Nat.sub_zero, hs, pA_bytes ha, pA_bytes hb] at this
          exact this
        have hd1 : (bytesOf (pA b)).drop 0 = pL a ++ (pL b).drop (pL a).length := by
          have := List.take_append_drop (pL a).length (pL b)
          rw [ht] at this
          rw [List.drop_zero, pA_bytes hb, this]
        have g1 := (got_put (p := 0) ⟨ha, by omega⟩ hd1).2.1
        have g2 := (got_put (s := pA b) (p := 0) (r := []) ⟨hb, by omega⟩ (by rw [List.drop_zero, pA_bytes hb, List.append_nil])).2.1
        have hab : a = b := g1.symm.trans g2
        subst hab
        rw [if_pos (by simp), fixed_bind (by decide)]
      · rw [if_neg he, fixed_bind (by decide)]
end Go.Proofs.YtjjimkmbbifbjaaDoor.Pure
