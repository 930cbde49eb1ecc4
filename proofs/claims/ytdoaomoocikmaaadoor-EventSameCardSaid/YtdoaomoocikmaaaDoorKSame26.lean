import Derived.Laws.Rows
import Derived.Test.YtdoaomoocikmaaaDoorKSame25
namespace Go.Proofs.YtdoaomoocikmaaaDoor.EW
open Go Go.RowKit Go.Shelf Go.Proofs.YtdoaomoocikmaaaDoor Go.Proofs.YtdoaomoocikmaaaDoor.EB
def XB (w : World) (X : Nat) (o q : Int) (t l : ByteArray) (m : Int) : Prop := w.heap[X]? = some (.cells #[.int .i64 o, .int .i64 q, .string t, .string l, .int .i64 m] 23 (0, 0))
section
variable {w : World} {X : Nat} {o q : Int} {t l : ByteArray} {m : Int}
theorem XB.lt (h : XB w X o q t l m) : X < w.heap.size := (Array.getElem?_eq_some_iff.1 h).1
theorem XB.c0 (h : XB w X o q t l m) : w.cell? ⟨X, 0, none⟩ = some (.int .i64 o) := by simp [World.cell?, show w.heap[X]? = _ from h]
theorem XB.c1 (h : XB w X o q t l m) : w.cell? ⟨X, 1, none⟩ = some (.int .i64 q) := by simp [World.cell?, show w.heap[X]? = _ from h]
theorem XB.c2 (h : XB w X o q t l m) : w.cell? ⟨X, 2, none⟩ = some (.string t) := by simp [World.cell?, show w.heap[X]? = _ from h]
theorem XB.c3 (h : XB w X o q t l m) : w.cell? ⟨X, 3, none⟩ = some (.string l) := by simp [World.cell?, show w.heap[X]? = _ from h]
theorem XB.c4 (h : XB w X o q t l m) : w.cell? ⟨X, 4, none⟩ = some (.int .i64 m) := by simp [World.cell?, show w.heap[X]? = _ from h]
theorem XB.fr (h : XB w X o q t l m) (i : Nat) : w.frozen? ⟨X, i, none⟩ = false := by simp [World.frozen?, show w.heap[X]? = _ from h]
theorem XB.s0 (h : XB w X o q t l m) (n : Int) : XB (w.setCell ⟨X, 0, none⟩ (.int .i64 n)) X n q t l m := by
  unfold XB
  rw [heap_setCell_same _ _ _ _ _ _ h]
  rfl
theorem XB.s1 (h : XB w X o q t l m) (n : Int) : XB (w.setCell ⟨X, 1, none⟩ (.int .i64 n)) X o n t l m := by
  unfold XB
  rw [heap_setCell_same _ _ _ _ _ _ h]
  rfl
theorem XB.s2 (h : XB w X o q t l m) (x : ByteArray) : XB (w.setCell ⟨X, 2, none⟩ (.string x)) X o q x l m := by
  unfold XB
  rw [heap_setCell_same _ _ _ _ _ _ h]
  rfl
theorem XB.s3 (h : XB w X o q t l m) (x : ByteArray) : XB (w.setCell ⟨X, 3, none⟩ (.string x)) X o q t x m := by
  unfold XB
  rw [heap_setCell_same _ _ _ _ _ _ h]
  rfl
theorem XB.s4 (h : XB w X o q t l m) (n : Int) : XB (w.setCell ⟨X, 4, none⟩ (.int .i64 n)) X o q t l n := by
  unfold XB
  rw [heap_setCell_same _ _ _ _ _ _ h]
  rfl
theorem XB.other {w2 : World} {B : Nat} (h : XB w X o q t l m) (hE : Else B w w2) (h1 : X < B) : XB w2 X o q t l m := (hE.block X h.lt (by omega) (by omega)).trans h
theorem XB.far (h : XB w X o q t l m) (k i : Nat) (v : Value) (hk : X ≠ k) : XB (w.setCell ⟨k, i, none⟩ v) X o q t l m := (Below.heap_setCell _ _ _ _ (by simpa using hk)).trans h
theorem RD.far {B : Nat} {s : ByteArray} {a bad : Int} (h : RD B s a bad w) (k i : Nat) (v : Value) (hk : k < B) : RD B s a bad (w.setCell ⟨k, i, none⟩ v) :=
  ⟨(Below.heap_setCell _ _ _ _ (by simp; omega)).trans h.txt, (Below.heap_setCell _ _ _ _ (by simp; omega)).trans h.at_, (Below.heap_setCell _ _ _ _ (by simp; omega)).trans h.bad⟩
theorem XB.below {w2 : World} (h : XB w X o q t l m) (hb : Below w.heap.size w w2) : XB w2 X o q t l m := (hb.block X h.lt).trans h
end
theorem arr0 (p0 p1 p2 : Value) (w : World) : (Instr.index 49 (.agg #[p0, p1, p2]) (.int .i64 0)).run Tryd.prog w = .ok p0 w := by kernel_rfl
theorem arr1 (p0 p1 p2 : Value) (w : World) : (Instr.index 49 (.agg #[p0, p1, p2]) (.int .i64 1)).run Tryd.prog w = .ok p1 w := by kernel_rfl
theorem arr2 (p0 p1 p2 : Value) (w : World) : (Instr.index 49 (.agg #[p0, p1, p2]) (.int .i64 2)).run Tryd.prog w = .ok p2 w := by kernel_rfl
theorem num_at {B : Nat} {s : ByteArray} {a bad n a2 e2 : Int} {w : World} (h : RD B s a bad w) (hs : s.size ≤ 900000) (hn : numS s a bad = (n, a2, e2)) :
    Calls Tryd.prog 54 #[.pointer (some ⟨B, 0, none⟩), .pointer (some ⟨B + 1, 0, none⟩), .pointer (some ⟨B + 2, 0, none⟩)] w fun e w' => e = .returned (.int .i64 n) ∧ RD B s a2 e2 w' ∧ Else B w w' := by
  have := num_walk h (by omega)
  rw [hn] at this
  exact this
theorem text_at {B : Nat} {s : ByteArray} {a bad a2 e2 : Int} {x : ByteArray} {w : World} (h : RD B s a bad w) (hs : s.size ≤ 900000) (hn : textS s a bad = (x, a2, e2)) :
    Calls Tryd.prog 56 #[.pointer (some ⟨B, 0, none⟩), .pointer (some ⟨B + 1, 0, none⟩), .pointer (some ⟨B + 2, 0, none⟩)] w fun e w' => e = .returned (.string x) ∧ RD B s a2 e2 w' ∧ Else B w w' := by
  have := text_walk h (by omega)
  rw [hn] at this
  exact this
theorem reader_at (s : ByteArray) (a : Int) (w : World) (B : Nat) (hB : w.heap.size = B) :
    Calls Tryd.prog 41 #[.string s, .int .i64 a] w fun e w' => e = .returned (.tuple #[.func (.func 54) #[] #[.pointer (some ⟨B, 0, none⟩), .pointer (some ⟨B + 1, 0, none⟩), .pointer (some ⟨B + 2, 0, none⟩)], .func (.func 56) #[] #[.pointer (some ⟨B, 0, none⟩), .pointer (some ⟨B + 1, 0, none⟩), .pointer (some ⟨B + 2, 0, none⟩)], .func (.func 58) #[] #[.pointer (some ⟨B + 1, 0, none⟩), .pointer (some ⟨B + 2, 0, none⟩)]]) ∧ RD B s a 0 w' ∧ Below w.heap.size w w' := by
  subst hB
  exact reader_walk s a w
theorem text_short {s : ByteArray} {a bad a2 e2 : Int} {x : ByteArray} (hn : textS s a bad = (x, a2, e2)) : x.size ≤ s.size := by
  unfold textS at hn
  split at hn
  · cases hn; exact Nat.zero_le _
  · split at hn
    · cases hn; exact Nat.zero_le _
    · cases hn
      unfold VF.cutS
      (repeat' split) <;> first | (simp only [ByteArray.size_extract]; omega) | exact Nat.zero_le _
set_option maxHeartbeats 8000000 in
set_option maxRecDepth 100000 in
theorem get_walk (s : ByteArray) (hs : s.size ≤ 900000) (a : Int) (w : World) :
    Calls Tryd.prog 22 #[.string s, .int .i64 a] w fun e w' => e = .returned (.tuple #[.agg #[.int .i64 (getE s a).1, .int .i64 (getE s a).2.1, .string (getE s a).2.2.1, .string (getE s a).2.2.2.1, .int .i64 (getE s a).2.2.2.2.1], .int .i64 (getE s a).2.2.2.2.2.1, .int .i64 (getE s a).2.2.2.2.2.2]) ∧ Below w.heap.size w w' := by
  have i0 := arr0
  have i1 := arr1
  have i2 := arr2
  obtain ⟨n1, a1, e1, h1⟩ : ∃ N A E, numS s a 0 = (N, A, E) := ⟨_, _, _, rfl⟩
  obtain ⟨n2, a2, e2, h2⟩ : ∃ N A E, numS s a1 e1 = (N, A, E) := ⟨_, _, _, rfl⟩
  obtain ⟨n3, a3, e3, h3⟩ : ∃ N A E, numS s a2 e2 = (N, A, E) := ⟨_, _, _, rfl⟩
  obtain ⟨t1, a4, e4, h4⟩ : ∃ N A E, textS s a3 e3 = (N, A, E) := ⟨_, _, _, rfl⟩
  obtain ⟨t2, a5, e5, h5⟩ : ∃ N A E, textS s a4 e4 = (N, A, E) := ⟨_, _, _, rfl⟩
  have hr : read5 s a = (n1, n2, n3, t1, t2, a5, e5) := by unfold read5; simp only [h1, h2, h3, h4, h5]
  have ht1 := text_short h4
  have hg : getE s a = if e5 ≠ 0 then (0, 0, ⟨#[]⟩, ⟨#[]⟩, 0, 0, e5) else if rightE n1 n2 t1 t2 n3 = true then (n1, n2, t1, t2, n3, a5, 0) else (0, 0, ⟨#[]⟩, ⟨#[]⟩, 0, 0, 4) := by unfold getE; rw [hr]
  rw [hg]
  clear hg hr
  have hw := fun w => right_walk n1 n2 t1 t2 n3 (by omega) w
  replace h1 := Lib.hid h1
  replace h2 := Lib.hid h2
  replace h3 := Lib.hid h3
  replace h4 := Lib.hid h4
  replace h5 := Lib.hid h5
  obtain ⟨B, hB⟩ : ∃ B, w.heap.size + 2 = B := ⟨_, rfl⟩
  have hX1 : w.heap.size < B := by omega
  have hX2 : w.heap.size + 1 < B := by omega
  replace hB := Lib.hid hB
  have hcase : (e5 ≠ 0) ∨ (e5 = 0 ∧ rightE n1 n2 t1 t2 n3 = true) ∨ (e5 = 0 ∧ rightE n1 n2 t1 t2 n3 = false) := by
    by_cases he : e5 = 0
    · cases hq : rightE n1 n2 t1 t2 n3 with
      | true => exact .inr (.inl ⟨he, rfl⟩)
      | false => exact .inr (.inr ⟨he, rfl⟩)
    · exact .inl he
  rcases hcase with hc | ⟨hc, hq⟩ | ⟨hc, hq⟩
  · rw [if_pos hc]
    have k1 : (e5 == 0) = false := by simpa using hc
    have k2 : (e5 != 0) = true := by simpa using hc
    clear hc hw
    go_enter Tryd.func22, Tryd.ntmps22
    go_wp2_with (go_at_call 41; (with_reducible refine (reader_at _ _ _ B (by simp; exact hB.out)).mono ?_); rintro e w1 ⟨rfl, r1, b1⟩)
    have z1 : XB w1 w.heap.size 0 0 ⟨#[]⟩ ⟨#[]⟩ 0 := XB.below (show XB _ _ _ _ _ _ _ from heap_alloc2_old _ _ _) b1
    have x1 : XB w1 (w.heap.size + 1) 0 0 ⟨#[]⟩ ⟨#[]⟩ 0 := XB.below (show XB _ _ _ _ _ _ _ from heap_alloc2_new _ _ _) b1
    have y1 : Below w.heap.size w w1 := (((Below.refl _ w).alloc (Nat.le_refl _) _).alloc (by simp) _).trans (b1.mono (by simp; omega))
    clear b1
    refine wp_loop_rounds 4 ?_
    rw [rounds_succ]
    go_wp2_with fail
    refine (num_at r1 hs h1.out).mono ?_
    rintro e w2 ⟨rfl, r2, l2⟩
    have z2 := z1.other l2 hX1
    have x2 := x1.other l2 hX2
    have y2 := l2.below y1 y1.size (by omega)
    have c2 := x2.c0
    have f2 := x2.fr 0
    have r3 := r2.far (w.heap.size + 1) 0 (.int .i64 n1) hX2
    have z3 := z2.far (w.heap.size + 1) 0 (.int .i64 n1) (by omega)
    have x3 := x2.s0 n1
    have y3 := y2.setCell (p := ⟨w.heap.size + 1, 0, none⟩) (Nat.le_add_right _ _) (.int .i64 n1)
    clear r1 z1 x1 y1 l2 z2 x2 y2 r2
    go_wp2
    rw [rounds_succ]
    go_wp2_with fail
    refine (num_at r3 hs h2.out).mono ?_
    rintro e w4 ⟨rfl, r4, l4⟩
    have z4 := z3.other l4 hX1
    have x4 := x3.other l4 hX2
    have y4 := l4.below y3 y3.size (by omega)
    have c4 := x4.c1
    have f4 := x4.fr 1
    have r5 := r4.far (w.heap.size + 1) 1 (.int .i64 n2) hX2
    have z5 := z4.far (w.heap.size + 1) 1 (.int .i64 n2) (by omega)
    have x5 := x4.s1 n2
    have y5 := y4.setCell (p := ⟨w.heap.size + 1, 1, none⟩) (Nat.le_add_right _ _) (.int .i64 n2)
    clear r3 z3 x3 y3 l4 z4 x4 y4 r4 c2 f2
    go_wp2
    rw [rounds_succ]
    go_wp2_with fail
    refine (num_at r5 hs h3.out).mono ?_
    rintro e w6 ⟨rfl, r6, l6⟩
    have z6 := z5.other l6 hX1
    have x6 := x5.other l6 hX2
    have y6 := l6.below y5 y5.size (by omega)
    have c6 := x6.c4
    have f6 := x6.fr 4
    have r7 := r6.far (w.heap.size + 1) 4 (.int .i64 n3) hX2
    have z7 := z6.far (w.heap.size + 1) 4 (.int .i64 n3) (by omega)
    have x7 := x6.s4 n3
    have y7 := y6.setCell (p := ⟨w.heap.size + 1, 4, none⟩) (Nat.le_add_right _ _) (.int .i64 n3)
    clear r5 z5 x5 y5 l6 z6 x6 y6 r6 c4 f4
    go_wp2
    rw [rounds_succ]
    go_wp2_with fail
    refine (text_at r7 hs h4.out).mono ?_
    rintro e w8 ⟨rfl, r8, l8⟩
    have z8 := z7.other l8 hX1
    have x8 := x7.other l8 hX2
    have y8 := l8.below y7 y7.size (by omega)
    clear r7 z7 x7 y7 l8 c6 f6
    go_wp2_with fail
    refine (text_at r8 hs h5.out).mono ?_
    rintro e w9 ⟨rfl, r9, l9⟩
    have z9 := z8.other l9 hX1
    have x9 := x8.other l9 hX2
    have y9 := l9.below y8 y8.size (by omega)
    have c9 := x9.c2
    have f9 := x9.fr 2
    have x10 := x9.s2 t1
    have c10 := x10.c3
    have f10 := x10.fr 3
    have r11 := (r9.far (w.heap.size + 1) 2 (.string t1) hX2).far (w.heap.size + 1) 3 (.string t2) hX2
    have z11 := (z9.far (w.heap.size + 1) 2 (.string t1) (by omega)).far (w.heap.size + 1) 3 (.string t2) (by omega)
    have x11 := x10.s3 t2
    have y11 := (y9.setCell (p := ⟨w.heap.size + 1, 2, none⟩) (Nat.le_add_right _ _) (.string t1)).setCell (p := ⟨w.heap.size + 1, 3, none⟩) (Nat.le_add_right _ _) (.string t2)
    clear r8 z8 x8 y8 r9 z9 x9 y9 l9 x10
    go_wp2_with fail
    refine (end_walk r11).mono ?_
    rintro e w12 ⟨rfl, r12, l12⟩
    have z12 := z11.other l12 hX1
    have x12 := x11.other l12 hX2
    have y12 := l12.below y11 y11.size (by omega)
    have g0 := x12.c0
    have g1 := x12.c1
    have g2 := x12.c2
    have g3 := x12.c3
    have g4 := x12.c4
    have q0 := z12.c0
    have q1 := z12.c1
    have q2 := z12.c2
    have q3 := z12.c3
    have q4 := z12.c4
    have p0 := z12.fr 0
    have p1 := z12.fr 1
    have p2 := z12.fr 2
    have p3 := z12.fr 3
    have p4 := z12.fr 4
    clear r11 z11 x11 y11 l12 c9 f9 c10 f10 r12
    go_wp2_with fail
    have zz := ((((z12.s0 0).s1 0).s2 ⟨#[]⟩).s3 ⟨#[]⟩).s4 0
    have v0 := zz.c0
    have v1 := zz.c1
    have v2 := zz.c2
    have v3 := zz.c3
    have v4 := zz.c4
    exact bodyPost_ret (v := .tuple #[.agg #[.int .i64 0, .int .i64 0, .string ⟨#[]⟩, .string ⟨#[]⟩, .int .i64 0], .int .i64 0, .int .i64 e5]) (by simp [results, Tryd.results22, go_sem, v0, v1, v2, v3, v4]) rfl ⟨rfl, (((((y12.setCell (p := ⟨w.heap.size, 0, none⟩) (Nat.le_refl _) (.int .i64 0)).setCell (p := ⟨w.heap.size, 1, none⟩) (Nat.le_refl _) (.int .i64 0)).setCell (p := ⟨w.heap.size, 2, none⟩) (Nat.le_refl _) (.string ⟨#[]⟩)).setCell (p := ⟨w.heap.size, 3, none⟩) (Nat.le_refl _) (.string ⟨#[]⟩)).setCell (p := ⟨w.heap.size, 4, none⟩) (Nat.le_refl _) (.int .i64 0))⟩
  · subst hc
    rw [if_neg (by simp), hq, if_pos rfl]
    rw [hq] at hw
    clear hq
    go_enter Tryd.func22, Tryd.ntmps22
    go_wp2_with (go_at_call 41; (with_reducible refine (reader_at _ _ _ B (by simp; exact hB.out)).mono ?_); rintro e w1 ⟨rfl, r1, b1⟩)
    have z1 : XB w1 w.heap.size 0 0 ⟨#[]⟩ ⟨#[]⟩ 0 := XB.below (show XB _ _ _ _ _ _ _ from heap_alloc2_old _ _ _) b1
    have x1 : XB w1 (w.heap.size + 1) 0 0 ⟨#[]⟩ ⟨#[]⟩ 0 := XB.below (show XB _ _ _ _ _ _ _ from heap_alloc2_new _ _ _) b1
    have y1 : Below w.heap.size w w1 := (((Below.refl _ w).alloc (Nat.le_refl _) _).alloc (by simp) _).trans (b1.mono (by simp; omega))
    clear b1
    refine wp_loop_rounds 4 ?_
    rw [rounds_succ]
    go_wp2_with fail
    refine (num_at r1 hs h1.out).mono ?_
    rintro e w2 ⟨rfl, r2, l2⟩
    have z2 := z1.other l2 hX1
    have x2 := x1.other l2 hX2
    have y2 := l2.below y1 y1.size (by omega)
    have c2 := x2.c0
    have f2 := x2.fr 0
    have r3 := r2.far (w.heap.size + 1) 0 (.int .i64 n1) hX2
    have z3 := z2.far (w.heap.size + 1) 0 (.int .i64 n1) (by omega)
    have x3 := x2.s0 n1
    have y3 := y2.setCell (p := ⟨w.heap.size + 1, 0, none⟩) (Nat.le_add_right _ _) (.int .i64 n1)
    clear r1 z1 x1 y1 l2 z2 x2 y2 r2
    go_wp2
    rw [rounds_succ]
    go_wp2_with fail
    refine (num_at r3 hs h2.out).mono ?_
    rintro e w4 ⟨rfl, r4, l4⟩
    have z4 := z3.other l4 hX1
    have x4 := x3.other l4 hX2
    have y4 := l4.below y3 y3.size (by omega)
    have c4 := x4.c1
    have f4 := x4.fr 1
    have r5 := r4.far (w.heap.size + 1) 1 (.int .i64 n2) hX2
    have z5 := z4.far (w.heap.size + 1) 1 (.int .i64 n2) (by omega)
    have x5 := x4.s1 n2
    have y5 := y4.setCell (p := ⟨w.heap.size + 1, 1, none⟩) (Nat.le_add_right _ _) (.int .i64 n2)
    clear r3 z3 x3 y3 l4 z4 x4 y4 r4 c2 f2
    go_wp2
    rw [rounds_succ]
    go_wp2_with fail
    refine (num_at r5 hs h3.out).mono ?_
    rintro e w6 ⟨rfl, r6, l6⟩
    have z6 := z5.other l6 hX1
    have x6 := x5.other l6 hX2
    have y6 := l6.below y5 y5.size (by omega)
    have c6 := x6.c4
    have f6 := x6.fr 4
    have r7 := r6.far (w.heap.size + 1) 4 (.int .i64 n3) hX2
    have z7 := z6.far (w.heap.size + 1) 4 (.int .i64 n3) (by omega)
    have x7 := x6.s4 n3
    have y7 := y6.setCell (p := ⟨w.heap.size + 1, 4, none⟩) (Nat.le_add_right _ _) (.int .i64 n3)
    clear r5 z5 x5 y5 l6 z6 x6 y6 r6 c4 f4
    go_wp2
    rw [rounds_succ]
    go_wp2_with fail
    refine (text_at r7 hs h4.out).mono ?_
    rintro e w8 ⟨rfl, r8, l8⟩
    have z8 := z7.other l8 hX1
    have x8 := x7.other l8 hX2
    have y8 := l8.below y7 y7.size (by omega)
    clear r7 z7 x7 y7 l8 c6 f6
    go_wp2_with fail
    refine (text_at r8 hs h5.out).mono ?_
    rintro e w9 ⟨rfl, r9, l9⟩
    have z9 := z8.other l9 hX1
    have x9 := x8.other l9 hX2
    have y9 := l9.below y8 y8.size (by omega)
    have c9 := x9.c2
    have f9 := x9.fr 2
    have x10 := x9.s2 t1
    have c10 := x10.c3
    have f10 := x10.fr 3
    have r11 := (r9.far (w.heap.size + 1) 2 (.string t1) hX2).far (w.heap.size + 1) 3 (.string t2) hX2
    have z11 := (z9.far (w.heap.size + 1) 2 (.string t1) (by omega)).far (w.heap.size + 1) 3 (.string t2) (by omega)
    have x11 := x10.s3 t2
    have y11 := (y9.setCell (p := ⟨w.heap.size + 1, 2, none⟩) (Nat.le_add_right _ _) (.string t1)).setCell (p := ⟨w.heap.size + 1, 3, none⟩) (Nat.le_add_right _ _) (.string t2)
    clear r8 z8 x8 y8 r9 z9 x9 y9 l9 x10
    go_wp2_with fail
    refine (end_walk r11).mono ?_
    rintro e w12 ⟨rfl, r12, l12⟩
    have z12 := z11.other l12 hX1
    have x12 := x11.other l12 hX2
    have y12 := l12.below y11 y11.size (by omega)
    have g0 := x12.c0
    have g1 := x12.c1
    have g2 := x12.c2
    have g3 := x12.c3
    have g4 := x12.c4
    have q0 := z12.c0
    have q1 := z12.c1
    have q2 := z12.c2
    have q3 := z12.c3
    have q4 := z12.c4
    have p0 := z12.fr 0
    have p1 := z12.fr 1
    have p2 := z12.fr 2
    have p3 := z12.fr 3
    have p4 := z12.fr 4
    clear r11 z11 x11 y11 l12 c9 f9 c10 f10 r12
    go_wp2_with fail
    refine (hw _).mono ?_
    rintro e w13 ⟨rfl, b13⟩
    have z13 := z12.below b13
    have x13 := x12.below b13
    have y13 := y12.trans (b13.mono y12.size)
    clear b13 z12 x12 y12 g0 g1 g2 g3 g4 q0 q1 q2 q3 q4 p0 p1 p2 p3 p4
    have g0 := x13.c0
    have g1 := x13.c1
    have g2 := x13.c2
    have g3 := x13.c3
    have g4 := x13.c4
    have q0 := z13.c0
    have q1 := z13.c1
    have q2 := z13.c2
    have q3 := z13.c3
    have q4 := z13.c4
    have p0 := z13.fr 0
    have p1 := z13.fr 1
    have p2 := z13.fr 2
    have p3 := z13.fr 3
    have p4 := z13.fr 4
    go_wp2
    have zz := ((((z13.s0 n1).s1 n2).s2 t1).s3 t2).s4 n3
    have v0 := zz.c0
    have v1 := zz.c1
    have v2 := zz.c2
    have v3 := zz.c3
    have v4 := zz.c4
    exact bodyPost_ret (v := .tuple #[.agg #[.int .i64 n1, .int .i64 n2, .string t1, .string t2, .int .i64 n3], .int .i64 a5, .int .i64 0]) (by simp [results, Tryd.results22, go_sem, v0, v1, v2, v3, v4]) rfl ⟨rfl, (((((y13.setCell (p := ⟨w.heap.size, 0, none⟩) (Nat.le_refl _) (.int .i64 n1)).setCell (p := ⟨w.heap.size, 1, none⟩) (Nat.le_refl _) (.int .i64 n2)).setCell (p := ⟨w.heap.size, 2, none⟩) (Nat.le_refl _) (.string t1)).setCell (p := ⟨w.heap.size, 3, none⟩) (Nat.le_refl _) (.string t2)).setCell (p := ⟨w.heap.size, 4, none⟩) (Nat.le_refl _) (.int .i64 n3))⟩
  · subst hc
    rw [if_neg (by simp), hq, if_neg (by decide)]
    rw [hq] at hw
    clear hq
    go_enter Tryd.func22, Tryd.ntmps22
    go_wp2_with (go_at_call 41; (with_reducible refine (reader_at _ _ _ B (by simp; exact hB.out)).mono ?_); rintro e w1 ⟨rfl, r1, b1⟩)
    have z1 : XB w1 w.heap.size 0 0 ⟨#[]⟩ ⟨#[]⟩ 0 := XB.below (show XB _ _ _ _ _ _ _ from heap_alloc2_old _ _ _) b1
    have x1 : XB w1 (w.heap.size + 1) 0 0 ⟨#[]⟩ ⟨#[]⟩ 0 := XB.below (show XB _ _ _ _ _ _ _ from heap_alloc2_new _ _ _) b1
    have y1 : Below w.heap.size w w1 := (((Below.refl _ w).alloc (Nat.le_refl _) _).alloc (by simp) _).trans (b1.mono (by simp; omega))
    clear b1
    refine wp_loop_rounds 4 ?_
    rw [rounds_succ]
    go_wp2_with fail
    refine (num_at r1 hs h1.out).mono ?_
    rintro e w2 ⟨rfl, r2, l2⟩
    have z2 := z1.other l2 hX1
    have x2 := x1.other l2 hX2
    have y2 := l2.below y1 y1.size (by omega)
    have c2 := x2.c0
    have f2 := x2.fr 0
    have r3 := r2.far (w.heap.size + 1) 0 (.int .i64 n1) hX2
    have z3 := z2.far (w.heap.size + 1) 0 (.int .i64 n1) (by omega)
    have x3 := x2.s0 n1
    have y3 := y2.setCell (p := ⟨w.heap.size + 1, 0, none⟩) (Nat.le_add_right _ _) (.int .i64 n1)
    clear r1 z1 x1 y1 l2 z2 x2 y2 r2
    go_wp2
    rw [rounds_succ]
    go_wp2_with fail
    refine (num_at r3 hs h2.out).mono ?_
    rintro e w4 ⟨rfl, r4, l4⟩
    have z4 := z3.other l4 hX1
    have x4 := x3.other l4 hX2
    have y4 := l4.below y3 y3.size (by omega)
    have c4 := x4.c1
    have f4 := x4.fr 1
    have r5 := r4.far (w.heap.size + 1) 1 (.int .i64 n2) hX2
    have z5 := z4.far (w.heap.size + 1) 1 (.int .i64 n2) (by omega)
    have x5 := x4.s1 n2
    have y5 := y4.setCell (p := ⟨w.heap.size + 1, 1, none⟩) (Nat.le_add_right _ _) (.int .i64 n2)
    clear r3 z3 x3 y3 l4 z4 x4 y4 r4 c2 f2
    go_wp2
    rw [rounds_succ]
    go_wp2_with fail
    refine (num_at r5 hs h3.out).mono ?_
    rintro e w6 ⟨rfl, r6, l6⟩
    have z6 := z5.other l6 hX1
    have x6 := x5.other l6 hX2
    have y6 := l6.below y5 y5.size (by omega)
    have c6 := x6.c4
    have f6 := x6.fr 4
    have r7 := r6.far (w.heap.size + 1) 4 (.int .i64 n3) hX2
    have z7 := z6.far (w.heap.size + 1) 4 (.int .i64 n3) (by omega)
    have x7 := x6.s4 n3
    have y7 := y6.setCell (p := ⟨w.heap.size + 1, 4, none⟩) (Nat.le_add_right _ _) (.int .i64 n3)
    clear r5 z5 x5 y5 l6 z6 x6 y6 r6 c4 f4
    go_wp2
    rw [rounds_succ]
    go_wp2_with fail
    refine (text_at r7 hs h4.out).mono ?_
    rintro e w8 ⟨rfl, r8, l8⟩
    have z8 := z7.other l8 hX1
    have x8 := x7.other l8 hX2
    have y8 := l8.below y7 y7.size (by omega)
    clear r7 z7 x7 y7 l8 c6 f6
    go_wp2_with fail
    refine (text_at r8 hs h5.out).mono ?_
    rintro e w9 ⟨rfl, r9, l9⟩
    have z9 := z8.other l9 hX1
    have x9 := x8.other l9 hX2
    have y9 := l9.below y8 y8.size (by omega)
    have c9 := x9.c2
    have f9 := x9.fr 2
    have x10 := x9.s2 t1
    have c10 := x10.c3
    have f10 := x10.fr 3
    have r11 := (r9.far (w.heap.size + 1) 2 (.string t1) hX2).far (w.heap.size + 1) 3 (.string t2) hX2
    have z11 := (z9.far (w.heap.size + 1) 2 (.string t1) (by omega)).far (w.heap.size + 1) 3 (.string t2) (by omega)
    have x11 := x10.s3 t2
    have y11 := (y9.setCell (p := ⟨w.heap.size + 1, 2, none⟩) (Nat.le_add_right _ _) (.string t1)).setCell (p := ⟨w.heap.size + 1, 3, none⟩) (Nat.le_add_right _ _) (.string t2)
    clear r8 z8 x8 y8 r9 z9 x9 y9 l9 x10
    go_wp2_with fail
    refine (end_walk r11).mono ?_
    rintro e w12 ⟨rfl, r12, l12⟩
    have z12 := z11.other l12 hX1
    have x12 := x11.other l12 hX2
    have y12 := l12.below y11 y11.size (by omega)
    have g0 := x12.c0
    have g1 := x12.c1
    have g2 := x12.c2
    have g3 := x12.c3
    have g4 := x12.c4
    have q0 := z12.c0
    have q1 := z12.c1
    have q2 := z12.c2
    have q3 := z12.c3
    have q4 := z12.c4
    have p0 := z12.fr 0
    have p1 := z12.fr 1
    have p2 := z12.fr 2
    have p3 := z12.fr 3
    have p4 := z12.fr 4
    clear r11 z11 x11 y11 l12 c9 f9 c10 f10 r12
    go_wp2_with fail
    refine (hw _).mono ?_
    rintro e w13 ⟨rfl, b13⟩
    have z13 := z12.below b13
    have x13 := x12.below b13
    have y13 := y12.trans (b13.mono y12.size)
    clear b13 z12 x12 y12 g0 g1 g2 g3 g4 q0 q1 q2 q3 q4 p0 p1 p2 p3 p4
    have g0 := x13.c0
    have g1 := x13.c1
    have g2 := x13.c2
    have g3 := x13.c3
    have g4 := x13.c4
    have q0 := z13.c0
    have q1 := z13.c1
    have q2 := z13.c2
    have q3 := z13.c3
    have q4 := z13.c4
    have p0 := z13.fr 0
    have p1 := z13.fr 1
    have p2 := z13.fr 2
    have p3 := z13.fr 3
    have p4 := z13.fr 4
    go_wp2
    have zz := ((((z13.s0 0).s1 0).s2 ⟨#[]⟩).s3 ⟨#[]⟩).s4 0
    have v0 := zz.c0
    have v1 := zz.c1
    have v2 := zz.c2
    have v3 := zz.c3
    have v4 := zz.c4
    exact bodyPost_ret (v := .tuple #[.agg #[.int .i64 0, .int .i64 0, .string ⟨#[]⟩, .string ⟨#[]⟩, .int .i64 0], .int .i64 0, .int .i64 4]) (by simp [results, Tryd.results22, go_sem, v0, v1, v2, v3, v4]) rfl ⟨rfl, (((((y13.setCell (p := ⟨w.heap.size, 0, none⟩) (Nat.le_refl _) (.int .i64 0)).setCell (p := ⟨w.heap.size, 1, none⟩) (Nat.le_refl _) (.int .i64 0)).setCell (p := ⟨w.heap.size, 2, none⟩) (Nat.le_refl _) (.string ⟨#[]⟩)).setCell (p := ⟨w.heap.size, 3, none⟩) (Nat.le_refl _) (.string ⟨#[]⟩)).setCell (p := ⟨w.heap.size, 4, none⟩) (Nat.le_refl _) (.int .i64 0))⟩
end Go.Proofs.YtdoaomoocikmaaaDoor.EW
