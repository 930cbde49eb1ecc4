import Derived.RangeFuncBox
import Derived.Lib.Hide
import Derived.WalkLawsBesides
import Derived.Test.YtdoaomoocikmaaaDoorKSame24
namespace Go.Proofs.YtdoaomoocikmaaaDoor.EW
open Go Go.RowKit Go.Shelf Go.Proofs.YtdoaomoocikmaaaDoor Go.Proofs.YtdoaomoocikmaaaDoor.EB
structure RD (B : Nat) (s : ByteArray) (a bad : Int) (w : World) : Prop where
  txt : Boxed w B 9 (.string s)
  at_ : Boxed w (B + 1) 3 (.int .i64 a)
  bad : Boxed w (B + 2) 31 (.int .i64 bad)
structure Else (B : Nat) (w w2 : World) : Prop where
  os : w2.os = w.os
  tape : w2.tape = w.tape
  output : w2.output = w.output
  size : w.heap.size ≤ w2.heap.size
  block : ∀ k, k < w.heap.size → k ≠ B + 1 → k ≠ B + 2 → w2.heap[k]? = w.heap[k]?
theorem Else.refl (B : Nat) (w : World) : Else B w w := ⟨rfl, rfl, rfl, Nat.le_refl _, fun _ _ _ _ => rfl⟩
theorem Else.trans {B : Nat} {w w2 w3 : World} (h : Else B w w2) (g : Else B w2 w3) : Else B w w3 :=
  ⟨g.os.trans h.os, g.tape.trans h.tape, g.output.trans h.output, Nat.le_trans h.size g.size, fun k hk h1 h2 => (g.block k (Nat.lt_of_lt_of_le hk h.size) h1 h2).trans (h.block k hk h1 h2)⟩
theorem Else.of_below {B : Nat} {w w2 : World} (h : Below w.heap.size w w2) : Else B w w2 := ⟨h.os, h.tape, h.output, h.size, fun k hk _ _ => h.block k hk⟩
theorem Else.set {B : Nat} {w w2 : World} (h : Else B w w2) (k : Nat) (hk : k = B + 1 ∨ k = B + 2) (v : Value) : Else B w (w2.setCell ⟨k, 0, none⟩ v) :=
  ⟨h.os, h.tape, h.output, by have := h.size; simpa using this, fun j hj h1 h2 => (Below.heap_setCell _ _ _ _ (by rcases hk with e | e <;> (subst e; simpa))).trans (h.block j hj h1 h2)⟩
theorem Else.below {B N : Nat} {w0 w w2 : World} (h : Else B w w2) (hb : Below N w0 w) (hN : N ≤ w.heap.size) (hB : N ≤ B) : Below N w0 w2 :=
  ⟨h.os.trans hb.os, h.tape.trans hb.tape, h.output.trans hb.output, Nat.le_trans hb.size h.size, fun k hk => (h.block k (by omega) (by omega) (by omega)).trans (hb.block k hk)⟩
section
variable {B : Nat} {s : ByteArray} {a bad : Int} {w : World}
theorem RD.below {w2 : World} (h : RD B s a bad w) (hb : Below w.heap.size w w2) : RD B s a bad w2 :=
  ⟨(hb.block _ h.txt.lt).trans h.txt, (hb.block _ h.at_.lt).trans h.at_, (hb.block _ h.bad.lt).trans h.bad⟩
theorem RD.setAt (h : RD B s a bad w) (x : Int) : RD B s x bad (w.setCell ⟨B + 1, 0, none⟩ (.int .i64 x)) :=
  ⟨(Below.heap_setCell _ _ _ _ (by simp)).trans h.txt, h.at_.set _, (Below.heap_setCell _ _ _ _ (by simp)).trans h.bad⟩
theorem RD.setBad (h : RD B s a bad w) (x : Int) : RD B s a x (w.setCell ⟨B + 2, 0, none⟩ (.int .i64 x)) :=
  ⟨(Below.heap_setCell _ _ _ _ (by simp)).trans h.txt, (Below.heap_setCell _ _ _ _ (by simp)).trans h.at_, h.bad.set _⟩
set_option maxHeartbeats 2000000 in
set_option maxRecDepth 100000 in
theorem num_walk (h : RD B s a bad w) (hs : s.size ≤ 140737488351232) :
    Calls Tryd.prog 54 #[.pointer (some ⟨B, 0, none⟩), .pointer (some ⟨B + 1, 0, none⟩), .pointer (some ⟨B + 2, 0, none⟩)] w fun e w' => e = .returned (.int .i64 (numS s a bad).1) ∧ RD B s (numS s a bad).2.1 (numS s a bad).2.2 w' ∧ Else B w w' := by
  have c0 := h.txt.cell
  have c1 := h.at_.cell
  have hg := fun w => vget_walk s hs a w
  have g0 := get_bd (s := s) a
  have g1 := get_hi (s := s) a
  unfold numS
  generalize VF.getS s a = G at *
  obtain ⟨n, to_, e0⟩ := G
  simp only at hg g0 g1 ⊢
  by_cases hb : bad = 0
  · subst hb
    rw [if_neg (by simp)]
    by_cases he : e0 = 0
    · subst he
      rw [if_neg (by simp)]
      obtain ⟨m, hm⟩ : ∃ m : Int, (if 1099511627777 ≤ n then 1099511627777 else n) = m := ⟨_, rfl⟩
      have hm2 : 0 ≤ m ∧ m ≤ 1099511627777 := by rw [← hm]; split <;> omega
      rw [hm]
      have hmn : min n 1099511627777 = m := by rw [← hm]; split <;> omega
      replace hm := Lib.hid hm
      obtain ⟨hm3, hm4⟩ := hm2
      go_enter Tryd.func54, Tryd.ntmps54
      go_wp2_with (go_at_call 55; (with_reducible refine (hg _).mono ?_); rintro e w2 ⟨rfl, hB⟩
                   have r2 := h.below hB
                   have e2 : Else B w w2 := .of_below hB
                   have d1 := r2.at_.cell
                   have d2 := r2.bad.cell
                   have f1 := r2.at_.frozen
                   have r3 := r2.setAt to_
                   have e3 := e2.set (B + 1) (.inl rfl) (.int .i64 to_)
                   clear hB h c0 c1)
      go_returns
      exact ⟨rfl, r3, e3⟩
    · rw [if_pos he]
      have he2 : (e0 == 0) = false := by simpa using he
      have he3 : (e0 != 0) = true := by simpa using he
      go_enter Tryd.func54, Tryd.ntmps54
      go_wp2_with (go_at_call 55; (with_reducible refine (hg _).mono ?_); rintro e w2 ⟨rfl, hB⟩
                   have r2 := h.below hB
                   have e2 : Else B w w2 := .of_below hB
                   have d1 := r2.at_.cell
                   have d2 := r2.bad.cell
                   have f2 := r2.bad.frozen
                   have r3 := r2.setBad e0
                   have e3 := e2.set (B + 2) (.inr rfl) (.int .i64 e0)
                   clear hB h c0 c1)
      go_returns
      exact ⟨rfl, r3, e3⟩
  · rw [if_pos hb]
    have hb2 : (bad == 0) = false := by simpa using hb
    have hb3 : (bad != 0) = true := by simpa using hb
    go_enter Tryd.func54, Tryd.ntmps54
    go_wp2_with (go_at_call 55; (with_reducible refine (hg _).mono ?_); rintro e w2 ⟨rfl, hB⟩
                 have r2 := h.below hB
                 have e2 : Else B w w2 := .of_below hB
                 have d1 := r2.at_.cell
                 have d2 := r2.bad.cell
                 clear hB h c0 c1)
    go_returns
    exact ⟨rfl, r2, e2⟩
set_option maxHeartbeats 2000000 in
set_option maxRecDepth 100000 in
theorem text_walk (h : RD B s a bad w) (hs : s.size ≤ 140737488351232) :
    Calls Tryd.prog 56 #[.pointer (some ⟨B, 0, none⟩), .pointer (some ⟨B + 1, 0, none⟩), .pointer (some ⟨B + 2, 0, none⟩)] w fun e w' => e = .returned (.string (textS s a bad).1) ∧ RD B s (textS s a bad).2.1 (textS s a bad).2.2 w' ∧ Else B w w' := by
  have c0 := h.txt.cell
  have c1 := h.at_.cell
  have hg := fun w => vcut_walk s hs a w
  unfold textS
  generalize VF.cutS s a = G at *
  obtain ⟨x, to_, e0⟩ := G
  simp only at hg ⊢
  by_cases hb : bad = 0
  · subst hb
    rw [if_neg (by simp)]
    by_cases he : e0 = 0
    · subst he
      rw [if_neg (by simp)]
      go_enter Tryd.func56, Tryd.ntmps56
      go_wp2_with (go_at_call 57; (with_reducible refine (hg _).mono ?_); rintro e w2 ⟨rfl, hB⟩
                   have r2 := h.below hB
                   have e2 : Else B w w2 := .of_below hB
                   have d1 := r2.at_.cell
                   have d2 := r2.bad.cell
                   have f1 := r2.at_.frozen
                   have r3 := r2.setAt to_
                   have e3 := e2.set (B + 1) (.inl rfl) (.int .i64 to_)
                   clear hB h c0 c1)
      go_returns
      exact ⟨rfl, r3, e3⟩
    · rw [if_pos he]
      have he2 : (e0 == 0) = false := by simpa using he
      have he3 : (e0 != 0) = true := by simpa using he
      go_enter Tryd.func56, Tryd.ntmps56
      go_wp2_with (go_at_call 57; (with_reducible refine (hg _).mono ?_); rintro e w2 ⟨rfl, hB⟩
                   have r2 := h.below hB
                   have e2 : Else B w w2 := .of_below hB
                   have d1 := r2.at_.cell
                   have d2 := r2.bad.cell
                   have f2 := r2.bad.frozen
                   have r3 := r2.setBad e0
                   have e3 := e2.set (B + 2) (.inr rfl) (.int .i64 e0)
                   clear hB h c0 c1)
      go_returns
      exact ⟨rfl, r3, e3⟩
  · rw [if_pos hb]
    have hb2 : (bad == 0) = false := by simpa using hb
    have hb3 : (bad != 0) = true := by simpa using hb
    go_enter Tryd.func56, Tryd.ntmps56
    go_wp2_with (go_at_call 57; (with_reducible refine (hg _).mono ?_); rintro e w2 ⟨rfl, hB⟩
                 have r2 := h.below hB
                 have e2 : Else B w w2 := .of_below hB
                 have d1 := r2.at_.cell
                 have d2 := r2.bad.cell
                 clear hB h c0 c1)
    go_returns
    exact ⟨rfl, r2, e2⟩
theorem end_walk (h : RD B s a bad w) :
    Calls Tryd.prog 58 #[.pointer (some ⟨B + 1, 0, none⟩), .pointer (some ⟨B + 2, 0, none⟩)] w fun e w' => e = .returned (.tuple #[.int .i64 a, .int .i64 bad]) ∧ RD B s a bad w' ∧ Else B w w' := by
  have c1 := h.at_.cell
  have c2 := h.bad.cell
  go_enter Tryd.func58, Tryd.ntmps58
  go_wp2
  go_region
  go_wp2
  go_returns
  have hb : Below w.heap.size w w.drew := (Below.refl _ w).drew
  exact ⟨rfl, h.below hb, .of_below hb⟩
end
theorem reader_walk (s : ByteArray) (a : Int) (w : World) :
    Calls Tryd.prog 41 #[.string s, .int .i64 a] w fun e w' => e = .returned (.tuple #[.func (.func 54) #[] #[.pointer (some ⟨w.heap.size, 0, none⟩), .pointer (some ⟨w.heap.size + 1, 0, none⟩), .pointer (some ⟨w.heap.size + 2, 0, none⟩)], .func (.func 56) #[] #[.pointer (some ⟨w.heap.size, 0, none⟩), .pointer (some ⟨w.heap.size + 1, 0, none⟩), .pointer (some ⟨w.heap.size + 2, 0, none⟩)], .func (.func 58) #[] #[.pointer (some ⟨w.heap.size + 1, 0, none⟩), .pointer (some ⟨w.heap.size + 2, 0, none⟩)]]) ∧ RD w.heap.size s a 0 w' ∧ Below w.heap.size w w' := by
  go_enter Tryd.func41, Tryd.ntmps41
  go_wp2
  have z0 := Boxed.new w 9 (.string s)
  have z1 := Boxed.new (w.alloc (.cells #[.string s] 9)) 3 (.int .i64 a)
  have z2 := Boxed.new ((w.alloc (.cells #[.string s] 9)).alloc (.cells #[.int .i64 a] 3)) 31 (.int .i64 0)
  simp only [World.size_alloc] at z1 z2
  go_returns
  exact ⟨rfl, ⟨(z0.alloc _).alloc _, z1.alloc _, z2⟩, (((Below.refl _ w).alloc (Nat.le_refl _) _).alloc (by simp) _).alloc (by simp; omega) _⟩
end Go.Proofs.YtdoaomoocikmaaaDoor.EW
