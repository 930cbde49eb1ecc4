import Derived.Test.YtjjimkmbbifbjaaDoorKCuts22
namespace Go.Proofs.YtjjimkmbbifbjaaDoor.SP
open Go Go.RowKit Go.Shelf Go.Proofs.YtjjimkmbbifbjaaDoor Go.Proofs.YtjjimkmbbifbjaaDoor.SW Go.Proofs.YtjjimkmbbifbjaaDoor.VP Go.Proofs.YtjjimkmbbifbjaaDoor.VF Go.Proofs.YtjjimkmbbifbjaaDoor.TP Go.Proofs.YtjjimkmbbifbjaaDoor.Pv Go.Proofs.YtjjimkmbbifbjaaDoorW.PrintWords
abbrev R10 := Int × Int × Int × Int × ByteArray × ByteArray × Bool × Int × Int × Int
def zero10 (e : Int) : R10 := (0, 0, 0, 0, ⟨#[]⟩, ⟨#[]⟩, false, 0, 0, e)
def getK4 (k n N K : Int) (x y : ByteArray) (b : Bool) (T q : Int) : R10 := if rightA k n N K x y b T = true then (k, n, N, K, x, y, b, T, q, 0) else zero10 4
def getK3 (k : Int) (s : ByteArray) (a p q : Int) : R10 := if errT (hasB k) s q 2 = 0 then getK4 k (valN (hasB k) s a 0 0) (valN (hasB k) s a 1 0) (valN (hasB k) s a 2 0) (valT (hasB k) s q 0 ⟨#[]⟩) (valT (hasB k) s q 1 ⟨#[]⟩) (valF (hasB k) s p false) (valN (hasB k) s a 3 0) (posT (hasB k) s q 2) else zero10 (errT (hasB k) s q 2)
def getK2 (k : Int) (s : ByteArray) (a p : Int) : R10 := if errF (hasB k) s p = 0 then getK3 k s a p (posF (hasB k) p) else zero10 (errF (hasB k) s p)
def getK (k : Int) (s : ByteArray) (a : Int) : R10 := if errN (hasB k) s a 4 = 0 then getK2 k s a (posN (hasB k) s a 4) else zero10 (errN (hasB k) s a 4)
def getA (s : ByteArray) (a : Int) : R10 := if a < 0 ∨ (s.size : Int) < a then zero10 1 else if a = s.size then zero10 3 else if 11 ≤ bt s a then zero10 6 else getK (bt s a) s (a + 1)
def val10 (r : R10) : Value := .tuple #[.agg #[.int .i64 r.1, .int .i64 r.2.1, .int .i64 r.2.2.1, .int .i64 r.2.2.2.1, .string r.2.2.2.2.1, .string r.2.2.2.2.2.1, .bool r.2.2.2.2.2.2.1, .int .i64 r.2.2.2.2.2.2.2.1], .int .i64 r.2.2.2.2.2.2.2.2.1, .int .i64 r.2.2.2.2.2.2.2.2.2]
theorem posN_bd {h : Int} {s : ByteArray} {a : Int} (h0 : 0 ≤ a) (h1 : a ≤ s.size) : ∀ i, errN h s a i = 0 → a ≤ posN h s a i ∧ posN h s a i ≤ s.size
 | 0, _ => ⟨Int.le_refl _, h1⟩
 | i + 1, he => by
  by_cases e0 : errN h s a i = 0
  ·have ih := posN_bd h0 h1 i e0
   cases hb : bH h i with
   | false => rw [posN_f hb]; exact ih
   | true =>
    rw [errN_t e0 hb] at he
    rw [posN_t hb]
    rcases getS_cases s (posN h s a i) with g | ⟨n, p, hp, hg, _, hz, _, _⟩
    ·exact absurd he g.1
    ·rw [hg]
     simp only
     omega
  ·exact absurd ((errN_no e0 1).symm.trans he) e0
theorem cutS_size (s : ByteArray) (a : Int) : (cutS s a).1.size ≤ s.size := by
 unfold cutS
 split
 ·split
  ·exact Nat.zero_le _
  ·split
   ·exact Nat.zero_le _
   ·(simp only [ByteArray.size_extract]; omega)
 ·exact Nat.zero_le _
theorem valT_size (h : Int) (s : ByteArray) (q : Int) (i : Nat) : (valT h s q i ⟨#[]⟩).size ≤ s.size := by
 unfold valT
 split
 ·exact cutS_size _ _
 ·exact Nat.zero_le _
theorem outN_0 (p : Int) : outN p 0 = p := if_pos rfl
theorem outN_ne (p : Int) {e : Int} (h : e ≠ 0) : outN p e = 0 := if_neg h
theorem f3_0 (a b c : Value) (w : World) : (Instr.index 61 (.agg #[a, b, c]) (.int .i64 0)).run Tryd.prog w = .ok a w := by kernel_rfl
theorem f3_1 (a b c : Value) (w : World) : (Instr.index 61 (.agg #[a, b, c]) (.int .i64 1)).run Tryd.prog w = .ok b w := by kernel_rfl
theorem f3_2 (a b c : Value) (w : World) : (Instr.index 61 (.agg #[a, b, c]) (.int .i64 2)).run Tryd.prog w = .ok c w := by kernel_rfl
section
variable (k n N K : Int) (x y : ByteArray) (b : Bool) (T p e : Int)
def setR (w : World) (X : Nat) (k n N K : Int) (x y : ByteArray) (b : Bool) (T : Int) : World := (((((((w.setCell ⟨X, 0, none⟩ (.int .i64 k)).setCell ⟨X, 1, none⟩ (.int .i64 n)).setCell ⟨X, 2, none⟩ (.int .i64 N)).setCell ⟨X, 3, none⟩ (.int .i64 K)).setCell ⟨X, 4, none⟩ (.string x)).setCell ⟨X, 5, none⟩ (.string y)).setCell ⟨X, 6, none⟩ (.bool b)).setCell ⟨X, 7, none⟩ (.int .i64 T)
theorem setR_AC {w : World} {X : Nat} {k0 n0 N0 K0 : Int} {x0 y0 : ByteArray} {b0 : Bool} {T0 : Int} (h : AC w X k0 n0 N0 K0 x0 y0 b0 T0) : AC (setR w X k n N K x y b T) X k n N K x y b T := (((((((h.s0 k).s1 n).s2 N).s3 K).s4 x).s5 y).s6 b).s7 T
theorem setR_below {w0 w : World} {B X : Nat} (h : Below B w0 w) (hX : B ≤ X) : Below B w0 (setR w X k n N K x y b T) :=
 (((((((h.setCell (p := ⟨X, 0, none⟩) hX _).setCell (p := ⟨X, 1, none⟩) hX _).setCell (p := ⟨X, 2, none⟩) hX _).setCell (p := ⟨X, 3, none⟩) hX _).setCell (p := ⟨X, 4, none⟩) hX _).setCell (p := ⟨X, 5, none⟩) hX _).setCell (p := ⟨X, 6, none⟩) hX _).setCell (p := ⟨X, 7, none⟩) hX _
end
set_option maxHeartbeats 16000000 in
set_option maxRecDepth 100000 in
theorem get_walk (s : ByteArray) (hs : s.size ≤ 900000) (a : Int) (w : World) :
  Calls Tryd.prog 22 #[.string s, .int .i64 a] w fun e w' => e = .returned (val10 (getA s a)) ∧ Below w.heap.size w w' := by
 have hu := Tryd.underlying23
 have x0 : AC (w.alloc (.cells #[.int .i64 0, .int .i64 0, .int .i64 0, .int .i64 0, .string ⟨#[]⟩, .string ⟨#[]⟩, .bool false, .int .i64 0] 23)) w.heap.size 0 0 0 0 ⟨#[]⟩ ⟨#[]⟩ false 0 := AC.new w 0 0 0 0 ⟨#[]⟩ ⟨#[]⟩ false 0
 have y0 : Below w.heap.size w (w.alloc (.cells #[.int .i64 0, .int .i64 0, .int .i64 0, .int .i64 0, .string ⟨#[]⟩, .string ⟨#[]⟩, .bool false, .int .i64 0] 23)) := (Below.refl _ w).alloc (Nat.le_refl _) _
 have g0 := x0.c0
 have g1 := x0.c1
 have g2 := x0.c2
 have g3 := x0.c3
 have g4 := x0.c4
 have g5 := x0.c5
 have g6 := x0.c6
 have g7 := x0.c7
 have gf := x0.fr
 by_cases h1 : a < 0 ∨ (s.size : Int) < a
 ·have hr : getA s a = zero10 1 := if_pos h1
  rw [hr]
  rcases h1 with h1 | h1
  ·go_enter Tryd.func22, Tryd.ntmps22
   go_wp2
   refine bodyPost_ret (by simp [results, Tryd.results22, go_sem, g0, g1, g2, g3, g4, g5, g6, g7]; rfl) rfl ?_
   exact ⟨rfl, y0⟩
  ·go_enter Tryd.func22, Tryd.ntmps22
   go_wp2
   refine bodyPost_ret (by simp [results, Tryd.results22, go_sem, g0, g1, g2, g3, g4, g5, g6, g7]; rfl) rfl ?_
   exact ⟨rfl, y0⟩
 by_cases h2 : a = s.size
 ·have hr : getA s a = zero10 3 := (if_neg h1).trans (if_pos h2)
  rw [hr]
  subst h2
  go_enter Tryd.func22, Tryd.ntmps22
  go_wp2
  refine bodyPost_ret (by simp [results, Tryd.results22, go_sem, g0, g1, g2, g3, g4, g5, g6, g7]; rfl) rfl ?_
  exact ⟨rfl, y0⟩
 have a0 : 0 ≤ a := by omega
 have a1 : a < s.size := by omega
 have hix := str_at s a a0 a1
 have hbd := bt_bd s a
 obtain ⟨c, hc⟩ : ∃ c, c = bt s a := ⟨_, rfl⟩
 rw [← hc] at hix hbd
 by_cases h3 : 11 ≤ c
 ·have hr : getA s a = zero10 6 := (if_neg h1).trans ((if_neg h2).trans (if_pos (by rw [← hc]; exact h3)))
  rw [hr]
  clear hc
  replace h2 : (a == (s.size : Int)) = false := by simpa using h2
  go_enter Tryd.func22, Tryd.ntmps22
  go_wp2
  refine bodyPost_ret (by simp [results, Tryd.results22, go_sem, g0, g1, g2, g3, g4, g5, g6, g7]; rfl) rfl ?_
  exact ⟨rfl, y0⟩
 have hr : getA s a = getK c s (a + 1) := (if_neg h1).trans ((if_neg h2).trans ((if_neg (by rw [← hc]; exact h3)).trans (by rw [← hc])))
 rw [hr]
 clear hc hr
 replace h2 : (a == (s.size : Int)) = false := by simpa using h2
 have i0 := f3_0
 have i1 := f3_1
 have i2 := f3_2
 have e1 : ∀ (W : World) o, (W.alloc o).heap.size = W.heap.size + 1 := fun W o => by simp
 obtain ⟨W1, hW1⟩ : ∃ W, W = (w.alloc (.cells #[.int .i64 0, .int .i64 0, .int .i64 0, .int .i64 0, .string ⟨#[]⟩, .string ⟨#[]⟩, .bool false, .int .i64 0] 23)).alloc (.cells #[.int .i64 c, .int .i64 0, .int .i64 0, .int .i64 0, .string ⟨#[]⟩, .string ⟨#[]⟩, .bool false, .int .i64 0] 23) := ⟨_, rfl⟩
 have xa : AC W1 (w.heap.size + 1) c 0 0 0 ⟨#[]⟩ ⟨#[]⟩ false 0 := by
  have h := AC.new (w.alloc (.cells #[.int .i64 0, .int .i64 0, .int .i64 0, .int .i64 0, .string ⟨#[]⟩, .string ⟨#[]⟩, .bool false, .int .i64 0] 23)) c 0 0 0 ⟨#[]⟩ ⟨#[]⟩ false 0
  rw [e1, ← hW1] at h
  exact h
 have xr : AC W1 w.heap.size 0 0 0 0 ⟨#[]⟩ ⟨#[]⟩ false 0 := by rw [hW1]; exact x0.alloc _
 have yr : Below w.heap.size w W1 := by rw [hW1]; exact y0.alloc y0.size _
 rw [hW1] at xa xr yr
 clear hW1
 have lr := xr.lt
 unfold getK
 by_cases n1 : errN (hasB c) s (a + 1) 4 = 0
 ·rw [if_pos n1]
  have hp := posN_bd (h := hasB c) (s := s) (a := a + 1) (by omega) (by omega) 4 n1
  have hN : ∀ W, AC W (w.heap.size + 1) c 0 0 0 ⟨#[]⟩ ⟨#[]⟩ false 0 → Calls Tryd.prog 51 #[.pointer (some ⟨w.heap.size + 1, 0, none⟩), .string s, .int .i64 (a + 1)] W fun e w' => e = .returned (.tuple #[.int .i64 (posN (hasB c) s (a + 1) 4), .int .i64 0]) ∧ AC w' (w.heap.size + 1) c (valN (hasB c) s (a + 1) 0 0) (valN (hasB c) s (a + 1) 1 0) (valN (hasB c) s (a + 1) 2 0) ⟨#[]⟩ ⟨#[]⟩ false (valN (hasB c) s (a + 1) 3 0) ∧ W.grownBy w' (some (w.heap.size + 1)) := fun W h => (numbers_walk h s hs (a + 1)).mono fun e w' g => ⟨by rw [g.1, n1, outN_0], g.2.1 n1, g.2.2⟩
  unfold getK2
  generalize posN (hasB c) s (a + 1) 4 = p at *
  by_cases n2 : errF (hasB c) s p = 0
  ·rw [if_pos n2]
   have hF : ∀ (W : World) (u0 u1 u2 u3 : Int), AC W (w.heap.size + 1) c u0 u1 u2 ⟨#[]⟩ ⟨#[]⟩ false u3 → Calls Tryd.prog 52 #[.pointer (some ⟨w.heap.size + 1, 0, none⟩), .string s, .int .i64 p] W fun e w' => e = .returned (.tuple #[.int .i64 (posF (hasB c) p), .int .i64 0]) ∧ AC w' (w.heap.size + 1) c u0 u1 u2 ⟨#[]⟩ ⟨#[]⟩ (valF (hasB c) s p false) u3 ∧ W.grownBy w' (some (w.heap.size + 1)) := fun W _ _ _ _ h => (truth_walk h s hs p (by omega)).mono fun e w' g => ⟨by rw [g.1, n2, outN_0], g.2.1 n2, g.2.2⟩
   unfold getK3
   generalize posF (hasB c) p = q at *
   by_cases n3 : errT (hasB c) s q 2 = 0
   ·rw [if_pos n3]
    have hT : ∀ (W : World) (u0 u1 u2 u3 : Int) (u4 : Bool), AC W (w.heap.size + 1) c u0 u1 u2 ⟨#[]⟩ ⟨#[]⟩ u4 u3 → Calls Tryd.prog 53 #[.pointer (some ⟨w.heap.size + 1, 0, none⟩), .string s, .int .i64 q] W fun e w' => e = .returned (.tuple #[.int .i64 (posT (hasB c) s q 2), .int .i64 0]) ∧ AC w' (w.heap.size + 1) c u0 u1 u2 (valT (hasB c) s q 0 ⟨#[]⟩) (valT (hasB c) s q 1 ⟨#[]⟩) u4 u3 ∧ W.grownBy w' (some (w.heap.size + 1)) := fun W _ _ _ _ _ h => (texts_walk h s hs q).mono fun e w' g => ⟨by rw [g.1, n3, outN_0], g.2.1 n3, g.2.2⟩
    have hz := valT_size (hasB c) s q 0
    unfold getK4
    generalize posT (hasB c) s q 2 = t at *
    generalize valN (hasB c) s (a + 1) 0 0 = u0 at *
    generalize valN (hasB c) s (a + 1) 1 0 = u1 at *
    generalize valN (hasB c) s (a + 1) 2 0 = u2 at *
    generalize valN (hasB c) s (a + 1) 3 0 = u3 at *
    generalize valF (hasB c) s p false = u4 at *
    generalize valT (hasB c) s q 0 ⟨#[]⟩ = u5 at *
    generalize valT (hasB c) s q 1 ⟨#[]⟩ = u6 at *
    clear n1 n2 n3
    have hw := fun W => right_walk c u0 u1 u2 u5 u6 u4 u3 (by omega) W
    cases hq : rightA c u0 u1 u2 u5 u6 u4 u3 with
    | false =>
     rw [hq] at hw
     rw [if_neg (by decide)]
     go_enter Tryd.func22, Tryd.ntmps22
     clear g0 g1 g2 g3 g4 g5 g6 g7 gf x0 y0
     go_wp2
     refine wp_loop_rounds 4 ?_
     rw [rounds_succ]
     go_wp2_with (go_at_call 51; (with_reducible refine (hN _ xa).mono ?_); rintro e w2 ⟨rfl, xa2, g2⟩; have xr2 := xr.grown g2 (by simp); have yr2 := yr.grown g2 (by omega) (fun k hk => by cases hk; omega); have lr2 := xr2.lt)
     rw [rounds_succ]
     go_wp2_with (go_at_call 52; (with_reducible refine (hF _ _ _ _ _ xa2).mono ?_); rintro e w3 ⟨rfl, xa3, g3⟩; have xr3 := xr2.grown g3 (by simp); have yr3 := yr2.grown g3 (by omega) (fun k hk => by cases hk; omega); have lr3 := xr3.lt)
     rw [rounds_succ]
     go_wp2_with (go_at_call 53; (with_reducible refine (hT _ _ _ _ _ _ xa3).mono ?_); rintro e w4 ⟨rfl, xa4, g4⟩; have xr4 := xr3.grown g4 (by simp); have yr4 := yr3.grown g4 (by omega) (fun k hk => by cases hk; omega); have lr4 := xr4.lt)
     have d0 := xa4.c0
     have d1 := xa4.c1
     have d2 := xa4.c2
     have d3 := xa4.c3
     have d4 := xa4.c4
     have d5 := xa4.c5
     have d6 := xa4.c6
     have d7 := xa4.c7
     rw [rounds_succ]
     go_wp2_with (go_at_call 11; (with_reducible refine (hw _).mono ?_); rintro e w5 ⟨rfl, b5⟩; have xr5 := xr4.below b5; have yr5 := yr4.trans (b5.mono (by omega)); have xa5 := xa4.below b5; have r0 := xr5.c0; have r1 := xr5.c1; have r2 := xr5.c2; have r3 := xr5.c3; have r4 := xr5.c4; have r5 := xr5.c5; have r6 := xr5.c6; have r7 := xr5.c7; have rf := xr5.fr; have q0 := xa5.c0; have q1 := xa5.c1; have q2 := xa5.c2; have q3 := xa5.c3; have q4 := xa5.c4; have q5 := xa5.c5; have q6 := xa5.c6; have q7 := xa5.c7)
     have hZ := setR_AC 0 0 0 0 ⟨#[]⟩ ⟨#[]⟩ false 0 xr5
     have hB2 := setR_below 0 0 0 0 ⟨#[]⟩ ⟨#[]⟩ false 0 yr5 (Nat.le_refl _)
     clear rf r0 r1 r2 r3 r4 r5 r6 r7
     change bodyPost _ _ _ _ _ (setR w5 w.heap.size 0 0 0 0 ⟨#[]⟩ ⟨#[]⟩ false 0)
     generalize setR w5 w.heap.size 0 0 0 0 ⟨#[]⟩ ⟨#[]⟩ false 0 = wz at *
     have r0 := hZ.c0
     have r1 := hZ.c1
     have r2 := hZ.c2
     have r3 := hZ.c3
     have r4 := hZ.c4
     have r5 := hZ.c5
     have r6 := hZ.c6
     have r7 := hZ.c7
     refine bodyPost_ret (by simp [results, Tryd.results22, go_sem, r0, r1, r2, r3, r4, r5, r6, r7]; rfl) rfl ?_
     exact ⟨rfl, hB2⟩
    | true =>
     rw [hq] at hw
     rw [if_pos rfl]
     go_enter Tryd.func22, Tryd.ntmps22
     clear g0 g1 g2 g3 g4 g5 g6 g7 gf x0 y0
     go_wp2
     refine wp_loop_rounds 4 ?_
     rw [rounds_succ]
     go_wp2_with (go_at_call 51; (with_reducible refine (hN _ xa).mono ?_); rintro e w2 ⟨rfl, xa2, g2⟩; have xr2 := xr.grown g2 (by simp); have yr2 := yr.grown g2 (by omega) (fun k hk => by cases hk; omega); have lr2 := xr2.lt)
     rw [rounds_succ]
     go_wp2_with (go_at_call 52; (with_reducible refine (hF _ _ _ _ _ xa2).mono ?_); rintro e w3 ⟨rfl, xa3, g3⟩; have xr3 := xr2.grown g3 (by simp); have yr3 := yr2.grown g3 (by omega) (fun k hk => by cases hk; omega); have lr3 := xr3.lt)
     rw [rounds_succ]
     go_wp2_with (go_at_call 53; (with_reducible refine (hT _ _ _ _ _ _ xa3).mono ?_); rintro e w4 ⟨rfl, xa4, g4⟩; have xr4 := xr3.grown g4 (by simp); have yr4 := yr3.grown g4 (by omega) (fun k hk => by cases hk; omega); have lr4 := xr4.lt)
     have d0 := xa4.c0
     have d1 := xa4.c1
     have d2 := xa4.c2
     have d3 := xa4.c3
     have d4 := xa4.c4
     have d5 := xa4.c5
     have d6 := xa4.c6
     have d7 := xa4.c7
     rw [rounds_succ]
     go_wp2_with (go_at_call 11; (with_reducible refine (hw _).mono ?_); rintro e w5 ⟨rfl, b5⟩; have xr5 := xr4.below b5; have yr5 := yr4.trans (b5.mono (by omega)); have xa5 := xa4.below b5; have r0 := xr5.c0; have r1 := xr5.c1; have r2 := xr5.c2; have r3 := xr5.c3; have r4 := xr5.c4; have r5 := xr5.c5; have r6 := xr5.c6; have r7 := xr5.c7; have rf := xr5.fr; have q0 := xa5.c0; have q1 := xa5.c1; have q2 := xa5.c2; have q3 := xa5.c3; have q4 := xa5.c4; have q5 := xa5.c5; have q6 := xa5.c6; have q7 := xa5.c7)
     have hZ := setR_AC c u0 u1 u2 u5 u6 u4 u3 xr5
     have hB2 := setR_below c u0 u1 u2 u5 u6 u4 u3 yr5 (Nat.le_refl _)
     clear rf r0 r1 r2 r3 r4 r5 r6 r7
     change bodyPost _ _ _ _ _ (setR w5 w.heap.size c u0 u1 u2 u5 u6 u4 u3)
     generalize setR w5 w.heap.size c u0 u1 u2 u5 u6 u4 u3 = wz at *
     have r0 := hZ.c0
     have r1 := hZ.c1
     have r2 := hZ.c2
     have r3 := hZ.c3
     have r4 := hZ.c4
     have r5 := hZ.c5
     have r6 := hZ.c6
     have r7 := hZ.c7
     refine bodyPost_ret (by simp [results, Tryd.results22, go_sem, r0, r1, r2, r3, r4, r5, r6, r7]; rfl) rfl ?_
     exact ⟨rfl, hB2⟩
   ·rw [if_neg n3]
    have hT : ∀ (W : World) (u0 u1 u2 u3 : Int) (u4 : Bool), AC W (w.heap.size + 1) c u0 u1 u2 ⟨#[]⟩ ⟨#[]⟩ u4 u3 → Calls Tryd.prog 53 #[.pointer (some ⟨w.heap.size + 1, 0, none⟩), .string s, .int .i64 q] W fun e w' => e = .returned (.tuple #[.int .i64 0, .int .i64 (errT (hasB c) s q 2)]) ∧ True ∧ W.grownBy w' (some (w.heap.size + 1)) := fun W _ _ _ _ _ h => (texts_walk h s hs q).mono fun e w' g => ⟨by rw [g.1, outN_ne _ n3], trivial, g.2.2⟩
    generalize errT (hasB c) s q 2 = ee at *
    have hne : (ee != 0) = true := by simpa using n3
    go_enter Tryd.func22, Tryd.ntmps22
    clear g0 g1 g2 g3 g4 g5 g6 g7 gf x0 y0
    go_wp2
    refine wp_loop_rounds 4 ?_
    rw [rounds_succ]
    go_wp2_with (go_at_call 51; (with_reducible refine (hN _ xa).mono ?_); rintro e w2 ⟨rfl, xa2, g2⟩; have xr2 := xr.grown g2 (by simp); have yr2 := yr.grown g2 (by omega) (fun k hk => by cases hk; omega); have lr2 := xr2.lt)
    rw [rounds_succ]
    go_wp2_with (go_at_call 52; (with_reducible refine (hF _ _ _ _ _ xa2).mono ?_); rintro e w3 ⟨rfl, xa3, g3⟩; have xr3 := xr2.grown g3 (by simp); have yr3 := yr2.grown g3 (by omega) (fun k hk => by cases hk; omega); have lr3 := xr3.lt)
    rw [rounds_succ]
    go_wp2_with (go_at_call 53; (with_reducible refine (hT _ _ _ _ _ _ xa3).mono ?_); rintro e w4 ⟨rfl, xa4, g4⟩; have xr4 := xr3.grown g4 (by simp); have yr4 := yr3.grown g4 (by omega) (fun k hk => by cases hk; omega); have lr4 := xr4.lt; have r0 := xr4.c0; have r1 := xr4.c1; have r2 := xr4.c2; have r3 := xr4.c3; have r4 := xr4.c4; have r5 := xr4.c5; have r6 := xr4.c6; have r7 := xr4.c7; have rf := xr4.fr)
    have hZ := setR_AC 0 0 0 0 ⟨#[]⟩ ⟨#[]⟩ false 0 xr4
    have hB2 := setR_below 0 0 0 0 ⟨#[]⟩ ⟨#[]⟩ false 0 yr4 (Nat.le_refl _)
    clear rf r0 r1 r2 r3 r4 r5 r6 r7
    change bodyPost _ _ _ _ _ (setR w4 w.heap.size 0 0 0 0 ⟨#[]⟩ ⟨#[]⟩ false 0)
    generalize setR w4 w.heap.size 0 0 0 0 ⟨#[]⟩ ⟨#[]⟩ false 0 = wz at *
    have r0 := hZ.c0
    have r1 := hZ.c1
    have r2 := hZ.c2
    have r3 := hZ.c3
    have r4 := hZ.c4
    have r5 := hZ.c5
    have r6 := hZ.c6
    have r7 := hZ.c7
    refine bodyPost_ret (by simp [results, Tryd.results22, go_sem, r0, r1, r2, r3, r4, r5, r6, r7]; rfl) rfl ?_
    exact ⟨rfl, hB2⟩
  ·rw [if_neg n2]
   have hF : ∀ (W : World) (u0 u1 u2 u3 : Int), AC W (w.heap.size + 1) c u0 u1 u2 ⟨#[]⟩ ⟨#[]⟩ false u3 → Calls Tryd.prog 52 #[.pointer (some ⟨w.heap.size + 1, 0, none⟩), .string s, .int .i64 p] W fun e w' => e = .returned (.tuple #[.int .i64 0, .int .i64 (errF (hasB c) s p)]) ∧ True ∧ W.grownBy w' (some (w.heap.size + 1)) := fun W _ _ _ _ h => (truth_walk h s hs p (by omega)).mono fun e w' g => ⟨by rw [g.1, outN_ne _ n2], trivial, g.2.2⟩
   generalize errF (hasB c) s p = ee at *
   have hne : (ee != 0) = true := by simpa using n2
   go_enter Tryd.func22, Tryd.ntmps22
   clear g0 g1 g2 g3 g4 g5 g6 g7 gf x0 y0
   go_wp2
   refine wp_loop_rounds 4 ?_
   rw [rounds_succ]
   go_wp2_with (go_at_call 51; (with_reducible refine (hN _ xa).mono ?_); rintro e w2 ⟨rfl, xa2, g2⟩; have xr2 := xr.grown g2 (by simp); have yr2 := yr.grown g2 (by omega) (fun k hk => by cases hk; omega); have lr2 := xr2.lt)
   rw [rounds_succ]
   go_wp2_with (go_at_call 52; (with_reducible refine (hF _ _ _ _ _ xa2).mono ?_); rintro e w3 ⟨rfl, xa3, g3⟩; have xr3 := xr2.grown g3 (by simp); have yr3 := yr2.grown g3 (by omega) (fun k hk => by cases hk; omega); have lr3 := xr3.lt; have r0 := xr3.c0; have r1 := xr3.c1; have r2 := xr3.c2; have r3 := xr3.c3; have r4 := xr3.c4; have r5 := xr3.c5; have r6 := xr3.c6; have r7 := xr3.c7; have rf := xr3.fr)
   have hZ := setR_AC 0 0 0 0 ⟨#[]⟩ ⟨#[]⟩ false 0 xr3
   have hB2 := setR_below 0 0 0 0 ⟨#[]⟩ ⟨#[]⟩ false 0 yr3 (Nat.le_refl _)
   clear rf r0 r1 r2 r3 r4 r5 r6 r7
   change bodyPost _ _ _ _ _ (setR w3 w.heap.size 0 0 0 0 ⟨#[]⟩ ⟨#[]⟩ false 0)
   generalize setR w3 w.heap.size 0 0 0 0 ⟨#[]⟩ ⟨#[]⟩ false 0 = wz at *
   have r0 := hZ.c0
   have r1 := hZ.c1
   have r2 := hZ.c2
   have r3 := hZ.c3
   have r4 := hZ.c4
   have r5 := hZ.c5
   have r6 := hZ.c6
   have r7 := hZ.c7
   refine bodyPost_ret (by simp [results, Tryd.results22, go_sem, r0, r1, r2, r3, r4, r5, r6, r7]; rfl) rfl ?_
   exact ⟨rfl, hB2⟩
 ·rw [if_neg n1]
  have hN : ∀ W, AC W (w.heap.size + 1) c 0 0 0 ⟨#[]⟩ ⟨#[]⟩ false 0 → Calls Tryd.prog 51 #[.pointer (some ⟨w.heap.size + 1, 0, none⟩), .string s, .int .i64 (a + 1)] W fun e w' => e = .returned (.tuple #[.int .i64 0, .int .i64 (errN (hasB c) s (a + 1) 4)]) ∧ True ∧ W.grownBy w' (some (w.heap.size + 1)) := fun W h => (numbers_walk h s hs (a + 1)).mono fun e w' g => ⟨by rw [g.1, outN_ne _ n1], trivial, g.2.2⟩
  generalize errN (hasB c) s (a + 1) 4 = ee at *
  have hne : (ee != 0) = true := by simpa using n1
  go_enter Tryd.func22, Tryd.ntmps22
  clear g0 g1 g2 g3 g4 g5 g6 g7 gf x0 y0
  go_wp2
  refine wp_loop_rounds 4 ?_
  rw [rounds_succ]
  go_wp2_with (go_at_call 51; (with_reducible refine (hN _ xa).mono ?_); rintro e w2 ⟨rfl, xa2, g2⟩; have xr2 := xr.grown g2 (by simp); have yr2 := yr.grown g2 (by omega) (fun k hk => by cases hk; omega); have lr2 := xr2.lt; have r0 := xr2.c0; have r1 := xr2.c1; have r2 := xr2.c2; have r3 := xr2.c3; have r4 := xr2.c4; have r5 := xr2.c5; have r6 := xr2.c6; have r7 := xr2.c7; have rf := xr2.fr)
  have hZ := setR_AC 0 0 0 0 ⟨#[]⟩ ⟨#[]⟩ false 0 xr2
  have hB2 := setR_below 0 0 0 0 ⟨#[]⟩ ⟨#[]⟩ false 0 yr2 (Nat.le_refl _)
  clear rf r0 r1 r2 r3 r4 r5 r6 r7
  change bodyPost _ _ _ _ _ (setR w2 w.heap.size 0 0 0 0 ⟨#[]⟩ ⟨#[]⟩ false 0)
  generalize setR w2 w.heap.size 0 0 0 0 ⟨#[]⟩ ⟨#[]⟩ false 0 = wz at *
  have r0 := hZ.c0
  have r1 := hZ.c1
  have r2 := hZ.c2
  have r3 := hZ.c3
  have r4 := hZ.c4
  have r5 := hZ.c5
  have r6 := hZ.c6
  have r7 := hZ.c7
  refine bodyPost_ret (by simp [results, Tryd.results22, go_sem, r0, r1, r2, r3, r4, r5, r6, r7]; rfl) rfl ?_
  exact ⟨rfl, hB2⟩
end Go.Proofs.YtjjimkmbbifbjaaDoor.SP
