/-
  Chapter 09: a call of a script.
-/
import Derived.Test.YtkmgbgolpogmpaaDskOps
namespace Go.Proofs.Ytkmgbgolpogmpaa.DK
open Go.RowKit Go.Proofs.Ytkmgbgolpogmpaa
attribute [local go_sem] max2_int min2_int max_two min_two

theorem Puts.of {w w1 w2 : World} {A : Nat} {W : Value} {n k : Four} {l : List Wr} (h1 : Keeps w w1 A W) (hp : Puts w1 w2 A W n k l) : Puts w w2 A W n k l := by
  obtain ⟨W2, ha, hK, hw⟩ := hp
  exact ⟨W2, ha, hK.after h1, hw.imp id fun f b hb => Nat.le_trans h1.size (f b hb)⟩
theorem Puts.nil {w w2 : World} {A : Nat} {W : Value} {n k : Four} {l : List Wr} (ha : At w2 A (.slice none 0 0) n k l) (hK : Keeps w w2 A W) : Puts w w2 A W n k l := ⟨_, ha, hK, .inr fun b hb => by simp [Value.ownBlock] at hb⟩
theorem Puts.same {w w2 : World} {A : Nat} {W : Value} {n k : Four} {l : List Wr} (ha : At w2 A W n k l) (hK : Keeps w w2 A W) : Puts w w2 A W n k l := ⟨_, ha, hK, .inl rfl⟩
theorem append_puts {w w2 : World} {A : Nat} {W : Value} {st : St} (h : At w A W st.n st.k st.l) {i : Int} {s : ByteArray} (hq : if appendS st.n i s = 0 then Puts w w2 A W (st.n.to i (st.n.at i ++ s)) st.k (st.l ++ [⟨false, i, s⟩]) else w2 = w) :
    Puts w w2 A W (appendT st i s).n (appendT st i s).k (appendT st i s).l := by
  unfold appendT
  split at hq
  · rename_i h0
    rw [if_pos h0]
    exact hq
  · rename_i h0
    subst hq
    rw [if_neg h0]
    exact .same h (Keeps.refl _ _ _)
theorem replace_puts {w w2 : World} {A : Nat} {W : Value} {st : St} (h : At w A W st.n st.k st.l) {i : Int} {s : ByteArray} (hq : if replaceS i s = 0 then Puts w w2 A W (st.n.to i s) st.k (st.l ++ [⟨true, i, s⟩]) else w2 = w) :
    Puts w w2 A W (replaceT st i s).n (replaceT st i s).k (replaceT st i s).l := by
  unfold replaceT
  split at hq
  · rename_i h0
    rw [if_pos h0]
    exact hq
  · rename_i h0
    subst hq
    rw [if_neg h0]
    exact .same h (Keeps.refl _ _ _)
theorem next_0 (st : St) {o : OpV} (h : o.kind = 0) : ans st o = appendS st.n o.file o.cut ∧ next st o = appendT st o.file o.cut := ⟨by unfold ans; rw [if_pos h], by unfold next; rw [if_pos h]⟩
theorem next_1 (st : St) {o : OpV} (h : o.kind = 1) : ans st o = replaceS o.file o.cut ∧ next st o = replaceT st o.file o.cut := ⟨by unfold ans; rw [if_neg (by omega), if_pos h], by unfold next; rw [if_neg (by omega), if_pos h]⟩
theorem next_2 (st : St) {o : OpV} (h : o.kind = 2) : ans st o = 0 ∧ next st o = ⟨st.n, st.n, []⟩ := ⟨by unfold ans; rw [if_neg (by omega), if_neg (by omega), if_neg (by omega)], by unfold next; rw [if_neg (by omega), if_neg (by omega), if_pos h]⟩
theorem next_3 (st : St) {o : OpV} (h : o.kind = 3) : ans st o = staysN o.n (unitsOf st.l) ∧ next st o = crashT st o.n := ⟨by unfold ans; rw [if_neg (by omega), if_neg (by omega), if_pos h], by unfold next; rw [if_neg (by omega), if_neg (by omega), if_neg (by omega), if_pos h]⟩
theorem next_4 (st : St) {o : OpV} (h0 : o.kind ≠ 0) (h1 : o.kind ≠ 1) (h2 : o.kind ≠ 2) (h3 : o.kind ≠ 3) : ans st o = 0 ∧ next st o = st := ⟨by unfold ans; rw [if_neg h0, if_neg h1, if_neg h3], by unfold next; rw [if_neg h0, if_neg h1, if_neg h2, if_neg h3]⟩
theorem cut_of (s : ByteArray) {j : Int} (hj : (if 60 < (s.size : Int) then 60 else (s.size : Int)) = j) : s.extract 0 j.toNat = s.extract 0 (min s.size 60) := by
  congr 1
  split at hj <;> omega
set_option maxHeartbeats 4000000 in
theorem play_walk {w : World} {A : Nat} {W : Value} {st : St} (h : At w A W st.n st.k st.l) {b : Nat} (hs : Sound b st) (hb : b ≤ 1000) (o : OpV) :
    Calls Try.prog 14 #[.pointer (some ⟨A, 0, none⟩), o.val] w fun e w2 => e = .returned (.int .i64 (ans st o)) ∧ Puts w w2 A W (next st o).n (next st o).k (next st o).l := by
  obtain ⟨j, hj⟩ : ∃ j : Int, (if 60 < (o.s.size : Int) then 60 else (o.s.size : Int)) = j := ⟨_, rfl⟩
  have bj : 0 ≤ j ∧ j ≤ o.s.size ∧ j ≤ 60 := by rw [← hj]; split <;> omega
  obtain ⟨bj0, bj1, bj2⟩ := bj
  have hcj : o.s.extract 0 j.toNat = o.cut := cut_of o.s hj
  have hcl := o.cut_le
  have hlen := hs.len
  have h1 := h.alloc (.cells #[.int .i64 o.kind, .int .i64 o.file, .string o.s, .int .i64 o.n] 31)
  have hK1 : Keeps w (w.alloc (.cells #[.int .i64 o.kind, .int .i64 o.file, .string o.s, .int .i64 o.n] 31)) A W := (Keeps.refl w A W).alloc _
  have hnow := hs.now_le
  have hfine := hs.fine hb
  by_cases hk0 : o.kind = 0
  · obtain ⟨ea, en⟩ := next_0 st hk0
    rw [ea, en]
    have hap := append_walk h1 (by omega) hnow o.file o.cut (by omega)
    have hpp := fun w2 hq => append_puts (w2 := w2) (i := o.file) (s := o.cut) h1 hq
    obtain ⟨kd, fl, s, nn⟩ := o
    simp only at *
    subst hk0
    generalize OpV.cut _ = S at *
    clear hfine hnow hs h ea en
    unfold OpV.val
    go_enter Try.func14, Try.ntmps14
    go_wp2_with (first | (go_at_call 12; (with_reducible refine hap.mono ?_); rintro e w2 ⟨rfl, hq⟩
                          have hz := hpp w2 hq
                          clear hq))
    go_returns
    exact ⟨rfl, .of hK1 hz⟩
  by_cases hk1 : o.kind = 1
  · obtain ⟨ea, en⟩ := next_1 st hk1
    rw [ea, en]
    have hap := replace_walk h1 (by omega) o.file o.cut (by omega)
    have hpp := fun w2 hq => replace_puts (w2 := w2) (i := o.file) (s := o.cut) h1 hq
    obtain ⟨kd, fl, s, nn⟩ := o
    simp only at *
    subst hk1
    generalize OpV.cut _ = S at *
    clear hfine hnow hs h ea en hk0
    unfold OpV.val
    go_enter Try.func14, Try.ntmps14
    go_wp2_with (first | (go_at_call 24; (with_reducible refine hap.mono ?_); rintro e w2 ⟨rfl, hq⟩
                          have hz := hpp w2 hq
                          clear hq))
    go_returns
    exact ⟨rfl, .of hK1 hz⟩
  by_cases hk2 : o.kind = 2
  · obtain ⟨ea, en⟩ := next_2 st hk2
    rw [ea, en]
    have hap := sync_walk h1
    obtain ⟨kd, fl, s, nn⟩ := o
    simp only at *
    subst hk2
    generalize OpV.cut _ = S at *
    clear hfine hnow hs h ea en hk0 hk1
    unfold OpV.val
    go_enter Try.func14, Try.ntmps14
    go_wp2_with (first | (go_at_call 13; (with_reducible refine hap.mono ?_); rintro e w2 ⟨rfl, hq, hq2⟩))
    go_returns
    exact ⟨rfl, .nil hq (hq2.after hK1)⟩
  by_cases hk3 : o.kind = 3
  · obtain ⟨ea, en⟩ := next_3 st hk3
    rw [ea, en]
    unfold crashT
    have hap := crash_walk h1 hfine o.n
    obtain ⟨kd, fl, s, nn⟩ := o
    simp only at *
    subst hk3
    generalize OpV.cut _ = S at *
    clear hfine hnow hs h ea en hk0 hk1 hk2
    unfold OpV.val
    go_enter Try.func14, Try.ntmps14
    go_wp2_with (first | (go_at_call 23; (with_reducible refine hap.mono ?_); rintro e w2 ⟨rfl, hq, hq2⟩))
    go_returns
    exact ⟨rfl, .nil hq (hq2.after hK1)⟩
  · obtain ⟨ea, en⟩ := next_4 st hk0 hk1 hk2 hk3
    rw [ea, en]
    obtain ⟨kd, fl, s, nn⟩ := o
    simp only at *
    generalize OpV.cut _ = S at *
    clear hfine hnow hs h ea en
    unfold OpV.val
    go_enter Try.func14, Try.ntmps14
    go_wp2
    go_returns
    exact ⟨rfl, .same h1 hK1⟩
end Go.Proofs.Ytkmgbgolpogmpaa.DK
