import Derived.Test.YtjjimkmbbifbjaaDoorKPuts10
import Derived.Test.YtjjimkmbbifbjaaDoorKPuts11
namespace Go.Proofs.YtjjimkmbbifbjaaDoor.SW
open Go Go.RowKit Go.Proofs.YtjjimkmbbifbjaaDoor Go.Proofs.YtjjimkmbbifbjaaDoor.Pu Go.Proofs.YtjjimkmbbifbjaaDoorW.PrintWords
theorem bH_none {i : Nat} (h : i < 7) : bH 0 i = false := by
 have hi : i = 0 ∨ i = 1 ∨ i = 2 ∨ i = 3 ∨ i = 4 ∨ i = 5 ∨ i = 6 := by omega
 rcases hi with rfl | rfl | rfl | rfl | rfl | rfl | rfl <;> decide
theorem uhas_f (a : Int) (h0 : 0 ≤ a ∧ a < 11) {i : Nat} (h : i < 7) : Pu.rivuletref23_Has.f a (i : Int) = some (bH (hasB a) i) := by
 have hk : a = 0 ∨ a = 1 ∨ a = 2 ∨ a = 3 ∨ a = 4 ∨ a = 5 ∨ a = 6 ∨ a = 7 ∨ a = 8 ∨ a = 9 ∨ a = 10 := by omega
 have hi : i = 0 ∨ i = 1 ∨ i = 2 ∨ i = 3 ∨ i = 4 ∨ i = 5 ∨ i = 6 := by omega
 rcases hk with rfl | rfl | rfl | rfl | rfl | rfl | rfl | rfl | rfl | rfl | rfl <;> rcases hi with rfl | rfl | rfl | rfl | rfl | rfl | rfl <;> decide +kernel
theorem hasr (a : Int) (h0 : 0 ≤ a ∧ a < 11) (i : Nat) (j : Int) (hj : (i : Int) = j) (h : i < 7) (r : Bool) (hr : bH (hasB a) i = r) (w : World) : Calls Tryd.prog 41 #[.int .i64 a, .int .i64 j] w fun e w' => e = .returned (.bool r) ∧ Below w.heap.size w w' := by
 subst hj
 refine (Pu.rivuletref23_Has.calls a i r w ((uhas_f a h0 h).trans (congrArg some hr))).mono ?_
 rintro e w' ⟨rfl, hb⟩
 exact ⟨rfl, by first | exact hb | exact hb.below⟩
section
variable (k n N K : Int) (s t : ByteArray) (b : Bool) (T : Int)
def setQ (w : World) (X : Nat) (k n N K : Int) (x y : ByteArray) (b : Bool) (T : Int) : World := (((((((w.setCell ⟨X, 0, none⟩ (.int .i64 k)).setCell ⟨X, 1, none⟩ (.int .i64 n)).setCell ⟨X, 2, none⟩ (.int .i64 N)).setCell ⟨X, 3, none⟩ (.int .i64 K)).setCell ⟨X, 4, none⟩ (.string x)).setCell ⟨X, 5, none⟩ (.string y)).setCell ⟨X, 6, none⟩ (.bool b)).setCell ⟨X, 7, none⟩ (.int .i64 T)
theorem setQ_AC {w : World} {X : Nat} {k0 n0 N0 K0 : Int} {x0 y0 : ByteArray} {b0 : Bool} {T0 : Int} (h : AC w X k0 n0 N0 K0 x0 y0 b0 T0) : AC (setQ w X k n N K s t b T) X k n N K s t b T := (((((((h.s0 k).s1 n).s2 N).s3 K).s4 s).s5 t).s6 b).s7 T
theorem setQ_below {w0 w : World} {B X : Nat} (h : Below B w0 w) (hX : B ≤ X) : Below B w0 (setQ w X k n N K s t b T) :=
 (((((((h.setCell (p := ⟨X, 0, none⟩) hX _).setCell (p := ⟨X, 1, none⟩) hX _).setCell (p := ⟨X, 2, none⟩) hX _).setCell (p := ⟨X, 3, none⟩) hX _).setCell (p := ⟨X, 4, none⟩) hX _).setCell (p := ⟨X, 5, none⟩) hX _).setCell (p := ⟨X, 6, none⟩) hX _).setCell (p := ⟨X, 7, none⟩) hX _
end
set_option maxHeartbeats 16000000 in
set_option maxRecDepth 100000 in
theorem rbare_1 (k n N K : Int) (s t : ByteArray) (b : Bool) (T : Int) (w : World) (hk : 0 ≤ k ∧ k < 11) (hh : hasB k = 1) :
  Calls Tryd.prog 14 #[.agg #[.int .i64 k, .int .i64 n, .int .i64 N, .int .i64 K, .string s, .string t, .bool b, .int .i64 T]] w fun e w' => e = .returned (.agg #[.int .i64 (kI (hasB k) k), .int .i64 (cI (hasB k) 0 n), .int .i64 (cI (hasB k) 1 N), .int .i64 (cI (hasB k) 2 K), .string (cS (hasB k) 5 s), .string (cS (hasB k) 6 t), .bool (cB (hasB k) 4 b), .int .i64 (cI (hasB k) 3 T)]) ∧ Below w.heap.size w w' := by
 have hu := Tryd.underlying23
 have e : ∀ (W : World) o, (W.alloc o).heap.size = W.heap.size + 1 := fun W o => by simp
 have x0 : AC ((w.alloc (.cells #[.int .i64 k, .int .i64 n, .int .i64 N, .int .i64 K, .string s, .string t, .bool b, .int .i64 T] 23)).alloc (.cells #[.int .i64 0, .int .i64 0, .int .i64 0, .int .i64 0, .string ⟨#[]⟩, .string ⟨#[]⟩, .bool false, .int .i64 0] 23)) w.heap.size k n N K s t b T := (AC.new w k n N K s t b T).alloc _
 have r0 : AC ((w.alloc (.cells #[.int .i64 k, .int .i64 n, .int .i64 N, .int .i64 K, .string s, .string t, .bool b, .int .i64 T] 23)).alloc (.cells #[.int .i64 0, .int .i64 0, .int .i64 0, .int .i64 0, .string ⟨#[]⟩, .string ⟨#[]⟩, .bool false, .int .i64 0] 23)) (w.heap.size + 1) 0 0 0 0 ⟨#[]⟩ ⟨#[]⟩ false 0 := by
  have h := AC.new (w.alloc (.cells #[.int .i64 k, .int .i64 n, .int .i64 N, .int .i64 K, .string s, .string t, .bool b, .int .i64 T] 23)) 0 0 0 0 ⟨#[]⟩ ⟨#[]⟩ false 0
  rw [e] at h
  exact h
 have y0 : Below w.heap.size w ((w.alloc (.cells #[.int .i64 k, .int .i64 n, .int .i64 N, .int .i64 K, .string s, .string t, .bool b, .int .i64 T] 23)).alloc (.cells #[.int .i64 0, .int .i64 0, .int .i64 0, .int .i64 0, .string ⟨#[]⟩, .string ⟨#[]⟩, .bool false, .int .i64 0] 23)) := ((Below.refl w.heap.size w).alloc (Nat.le_refl _) _).alloc (by rw [e]; omega) _
 clear e
 have g0 := x0.c0
 have n1 : ¬ k < 0 := by omega
 have n2 : ¬ 10 < k := by omega
 have hres : (.agg #[.int .i64 (kI (hasB k) k), .int .i64 (cI (hasB k) 0 n), .int .i64 (cI (hasB k) 1 N), .int .i64 (cI (hasB k) 2 K), .string (cS (hasB k) 5 s), .string (cS (hasB k) 6 t), .bool (cB (hasB k) 4 b), .int .i64 (cI (hasB k) 3 T)] : Value) = .agg #[.int .i64 k, .int .i64 n, .int .i64 0, .int .i64 0, .string ⟨#[]⟩, .string ⟨#[]⟩, .bool false, .int .i64 0] := by
    rw [hh, show kI 1 k = k from rfl]
    rfl
 rw [hres]
 clear hres
 have hs0 := hasr k hk 0 0 rfl (by decide) true (by rw [hh]; decide)
 have hs1 := hasr k hk 1 1 rfl (by decide) false (by rw [hh]; decide)
 have hs2 := hasr k hk 2 2 rfl (by decide) false (by rw [hh]; decide)
 have hs3 := hasr k hk 3 3 rfl (by decide) false (by rw [hh]; decide)
 have hs4 := hasr k hk 4 4 rfl (by decide) false (by rw [hh]; decide)
 have hs5 := hasr k hk 5 5 rfl (by decide) false (by rw [hh]; decide)
 have hs6 := hasr k hk 6 6 rfl (by decide) false (by rw [hh]; decide)
 clear hh hk
 go_enter Tryd.func14, Tryd.ntmps14
 go_wp2_with (first | (go_at_call 41; (with_reducible refine (hs0 _).mono ?_); rintro e w1 ⟨rfl, b1⟩; have x1 := x0.below b1; have r1 := r0.below b1; have y1 := y0.trans (b1.mono y0.size); have g1 := x1.c0) | (go_at_call 41; (with_reducible refine (hs1 _).mono ?_); rintro e w2 ⟨rfl, b2⟩; have x2 := x1.below b2; have r2 := r1.below b2; have y2 := y1.trans (b2.mono y1.size); have g2 := x2.c0; have d1 := x2.c2; have f1 := x2.fr 2; have x2s := x2.s2 0; have r2s := r2.far w.heap.size 2 (.int .i64 0) (by omega); have y2s := y2.setCell (p := ⟨w.heap.size, 2, none⟩) (Nat.le_refl _) (.int .i64 0); have g2s := x2s.c0) | (go_at_call 41; (with_reducible refine (hs2 _).mono ?_); rintro e w3 ⟨rfl, b3⟩; have x3 := x2s.below b3; have r3 := r2s.below b3; have y3 := y2s.trans (b3.mono y2s.size); have g3 := x3.c0; have d2 := x3.c3; have f2 := x3.fr 3; have x3s := x3.s3 0; have r3s := r3.far w.heap.size 3 (.int .i64 0) (by omega); have y3s := y3.setCell (p := ⟨w.heap.size, 3, none⟩) (Nat.le_refl _) (.int .i64 0); have g3s := x3s.c0) | (go_at_call 41; (with_reducible refine (hs3 _).mono ?_); rintro e w4 ⟨rfl, b4⟩; have x4 := x3s.below b4; have r4 := r3s.below b4; have y4 := y3s.trans (b4.mono y3s.size); have g4 := x4.c0; have d3 := x4.c7; have f3 := x4.fr 7; have x4s := x4.s7 0; have r4s := r4.far w.heap.size 7 (.int .i64 0) (by omega); have y4s := y4.setCell (p := ⟨w.heap.size, 7, none⟩) (Nat.le_refl _) (.int .i64 0); have g4s := x4s.c0) | (go_at_call 41; (with_reducible refine (hs4 _).mono ?_); rintro e w5 ⟨rfl, b5⟩; have x5 := x4s.below b5; have r5 := r4s.below b5; have y5 := y4s.trans (b5.mono y4s.size); have g5 := x5.c0; have d4 := x5.c6; have f4 := x5.fr 6; have x5s := x5.s6 false; have r5s := r5.far w.heap.size 6 (.bool false) (by omega); have y5s := y5.setCell (p := ⟨w.heap.size, 6, none⟩) (Nat.le_refl _) (.bool false); have g5s := x5s.c0) | (go_at_call 41; (with_reducible refine (hs5 _).mono ?_); rintro e w6 ⟨rfl, b6⟩; have x6 := x5s.below b6; have r6 := r5s.below b6; have y6 := y5s.trans (b6.mono y5s.size); have g6 := x6.c0; have d5 := x6.c4; have f5 := x6.fr 4; have x6s := x6.s4 ⟨#[]⟩; have r6s := r6.far w.heap.size 4 (.string ⟨#[]⟩) (by omega); have y6s := y6.setCell (p := ⟨w.heap.size, 4, none⟩) (Nat.le_refl _) (.string ⟨#[]⟩); have g6s := x6s.c0) | (go_at_call 41; (with_reducible refine (hs6 _).mono ?_); rintro e w7 ⟨rfl, b7⟩; have x7 := x6s.below b7; have r7 := r6s.below b7; have y7 := y6s.trans (b7.mono y6s.size); have g7 := x7.c0; have d6 := x7.c5; have f6 := x7.fr 5; have x7s := x7.s5 ⟨#[]⟩; have r7s := r7.far w.heap.size 5 (.string ⟨#[]⟩) (by omega); have y7s := y7.setCell (p := ⟨w.heap.size, 5, none⟩) (Nat.le_refl _) (.string ⟨#[]⟩); have g7s := x7s.c0; have k0 := x7s.c0; have q0 := r7s.c0; have k1 := x7s.c1; have q1 := r7s.c1; have k2 := x7s.c2; have q2 := r7s.c2; have k3 := x7s.c3; have q3 := r7s.c3; have k4 := x7s.c4; have q4 := r7s.c4; have k5 := x7s.c5; have q5 := r7s.c5; have k6 := x7s.c6; have q6 := r7s.c6; have k7 := x7s.c7; have q7 := r7s.c7; have rf := r7s.fr))
 have hZ := setQ_AC k n 0 0 ⟨#[]⟩ ⟨#[]⟩ false 0 r7s
 have hB2 := setQ_below k n 0 0 ⟨#[]⟩ ⟨#[]⟩ false 0 y7s (show w.heap.size ≤ w.heap.size + 1 by omega)
 clear rf q0 q1 q2 q3 q4 q5 q6 q7
 change bodyPost _ _ _ _ _ (setQ (w7.setCell ⟨w.heap.size, 5, none⟩ (.string ⟨#[]⟩)) (w.heap.size + 1) k n 0 0 ⟨#[]⟩ ⟨#[]⟩ false 0)
 generalize setQ (w7.setCell ⟨w.heap.size, 5, none⟩ (.string ⟨#[]⟩)) (w.heap.size + 1) k n 0 0 ⟨#[]⟩ ⟨#[]⟩ false 0 = wz at *
 have q0 := hZ.c0
 have q1 := hZ.c1
 have q2 := hZ.c2
 have q3 := hZ.c3
 have q4 := hZ.c4
 have q5 := hZ.c5
 have q6 := hZ.c6
 have q7 := hZ.c7
 refine bodyPost_ret (by simp [results, Tryd.results14, go_sem, q0, q1, q2, q3, q4, q5, q6, q7]; rfl) rfl ?_
 exact ⟨rfl, hB2⟩
set_option maxHeartbeats 16000000 in
set_option maxRecDepth 100000 in
theorem rbare_2 (k n N K : Int) (s t : ByteArray) (b : Bool) (T : Int) (w : World) (hk : 0 ≤ k ∧ k < 11) (hh : hasB k = 2) :
  Calls Tryd.prog 14 #[.agg #[.int .i64 k, .int .i64 n, .int .i64 N, .int .i64 K, .string s, .string t, .bool b, .int .i64 T]] w fun e w' => e = .returned (.agg #[.int .i64 (kI (hasB k) k), .int .i64 (cI (hasB k) 0 n), .int .i64 (cI (hasB k) 1 N), .int .i64 (cI (hasB k) 2 K), .string (cS (hasB k) 5 s), .string (cS (hasB k) 6 t), .bool (cB (hasB k) 4 b), .int .i64 (cI (hasB k) 3 T)]) ∧ Below w.heap.size w w' := by
 have hu := Tryd.underlying23
 have e : ∀ (W : World) o, (W.alloc o).heap.size = W.heap.size + 1 := fun W o => by simp
 have x0 : AC ((w.alloc (.cells #[.int .i64 k, .int .i64 n, .int .i64 N, .int .i64 K, .string s, .string t, .bool b, .int .i64 T] 23)).alloc (.cells #[.int .i64 0, .int .i64 0, .int .i64 0, .int .i64 0, .string ⟨#[]⟩, .string ⟨#[]⟩, .bool false, .int .i64 0] 23)) w.heap.size k n N K s t b T := (AC.new w k n N K s t b T).alloc _
 have r0 : AC ((w.alloc (.cells #[.int .i64 k, .int .i64 n, .int .i64 N, .int .i64 K, .string s, .string t, .bool b, .int .i64 T] 23)).alloc (.cells #[.int .i64 0, .int .i64 0, .int .i64 0, .int .i64 0, .string ⟨#[]⟩, .string ⟨#[]⟩, .bool false, .int .i64 0] 23)) (w.heap.size + 1) 0 0 0 0 ⟨#[]⟩ ⟨#[]⟩ false 0 := by
  have h := AC.new (w.alloc (.cells #[.int .i64 k, .int .i64 n, .int .i64 N, .int .i64 K, .string s, .string t, .bool b, .int .i64 T] 23)) 0 0 0 0 ⟨#[]⟩ ⟨#[]⟩ false 0
  rw [e] at h
  exact h
 have y0 : Below w.heap.size w ((w.alloc (.cells #[.int .i64 k, .int .i64 n, .int .i64 N, .int .i64 K, .string s, .string t, .bool b, .int .i64 T] 23)).alloc (.cells #[.int .i64 0, .int .i64 0, .int .i64 0, .int .i64 0, .string ⟨#[]⟩, .string ⟨#[]⟩, .bool false, .int .i64 0] 23)) := ((Below.refl w.heap.size w).alloc (Nat.le_refl _) _).alloc (by rw [e]; omega) _
 clear e
 have g0 := x0.c0
 have n1 : ¬ k < 0 := by omega
 have n2 : ¬ 10 < k := by omega
 have hres : (.agg #[.int .i64 (kI (hasB k) k), .int .i64 (cI (hasB k) 0 n), .int .i64 (cI (hasB k) 1 N), .int .i64 (cI (hasB k) 2 K), .string (cS (hasB k) 5 s), .string (cS (hasB k) 6 t), .bool (cB (hasB k) 4 b), .int .i64 (cI (hasB k) 3 T)] : Value) = .agg #[.int .i64 k, .int .i64 0, .int .i64 N, .int .i64 0, .string ⟨#[]⟩, .string ⟨#[]⟩, .bool false, .int .i64 0] := by
    rw [hh, show kI 2 k = k from rfl]
    rfl
 rw [hres]
 clear hres
 have hs0 := hasr k hk 0 0 rfl (by decide) false (by rw [hh]; decide)
 have hs1 := hasr k hk 1 1 rfl (by decide) true (by rw [hh]; decide)
 have hs2 := hasr k hk 2 2 rfl (by decide) false (by rw [hh]; decide)
 have hs3 := hasr k hk 3 3 rfl (by decide) false (by rw [hh]; decide)
 have hs4 := hasr k hk 4 4 rfl (by decide) false (by rw [hh]; decide)
 have hs5 := hasr k hk 5 5 rfl (by decide) false (by rw [hh]; decide)
 have hs6 := hasr k hk 6 6 rfl (by decide) false (by rw [hh]; decide)
 clear hh hk
 go_enter Tryd.func14, Tryd.ntmps14
 go_wp2_with (first | (go_at_call 41; (with_reducible refine (hs0 _).mono ?_); rintro e w1 ⟨rfl, b1⟩; have x1 := x0.below b1; have r1 := r0.below b1; have y1 := y0.trans (b1.mono y0.size); have g1 := x1.c0; have d0 := x1.c1; have f0 := x1.fr 1; have x1s := x1.s1 0; have r1s := r1.far w.heap.size 1 (.int .i64 0) (by omega); have y1s := y1.setCell (p := ⟨w.heap.size, 1, none⟩) (Nat.le_refl _) (.int .i64 0); have g1s := x1s.c0) | (go_at_call 41; (with_reducible refine (hs1 _).mono ?_); rintro e w2 ⟨rfl, b2⟩; have x2 := x1s.below b2; have r2 := r1s.below b2; have y2 := y1s.trans (b2.mono y1s.size); have g2 := x2.c0) | (go_at_call 41; (with_reducible refine (hs2 _).mono ?_); rintro e w3 ⟨rfl, b3⟩; have x3 := x2.below b3; have r3 := r2.below b3; have y3 := y2.trans (b3.mono y2.size); have g3 := x3.c0; have d2 := x3.c3; have f2 := x3.fr 3; have x3s := x3.s3 0; have r3s := r3.far w.heap.size 3 (.int .i64 0) (by omega); have y3s := y3.setCell (p := ⟨w.heap.size, 3, none⟩) (Nat.le_refl _) (.int .i64 0); have g3s := x3s.c0) | (go_at_call 41; (with_reducible refine (hs3 _).mono ?_); rintro e w4 ⟨rfl, b4⟩; have x4 := x3s.below b4; have r4 := r3s.below b4; have y4 := y3s.trans (b4.mono y3s.size); have g4 := x4.c0; have d3 := x4.c7; have f3 := x4.fr 7; have x4s := x4.s7 0; have r4s := r4.far w.heap.size 7 (.int .i64 0) (by omega); have y4s := y4.setCell (p := ⟨w.heap.size, 7, none⟩) (Nat.le_refl _) (.int .i64 0); have g4s := x4s.c0) | (go_at_call 41; (with_reducible refine (hs4 _).mono ?_); rintro e w5 ⟨rfl, b5⟩; have x5 := x4s.below b5; have r5 := r4s.below b5; have y5 := y4s.trans (b5.mono y4s.size); have g5 := x5.c0; have d4 := x5.c6; have f4 := x5.fr 6; have x5s := x5.s6 false; have r5s := r5.far w.heap.size 6 (.bool false) (by omega); have y5s := y5.setCell (p := ⟨w.heap.size, 6, none⟩) (Nat.le_refl _) (.bool false); have g5s := x5s.c0) | (go_at_call 41; (with_reducible refine (hs5 _).mono ?_); rintro e w6 ⟨rfl, b6⟩; have x6 := x5s.below b6; have r6 := r5s.below b6; have y6 := y5s.trans (b6.mono y5s.size); have g6 := x6.c0; have d5 := x6.c4; have f5 := x6.fr 4; have x6s := x6.s4 ⟨#[]⟩; have r6s := r6.far w.heap.size 4 (.string ⟨#[]⟩) (by omega); have y6s := y6.setCell (p := ⟨w.heap.size, 4, none⟩) (Nat.le_refl _) (.string ⟨#[]⟩); have g6s := x6s.c0) | (go_at_call 41; (with_reducible refine (hs6 _).mono ?_); rintro e w7 ⟨rfl, b7⟩; have x7 := x6s.below b7; have r7 := r6s.below b7; have y7 := y6s.trans (b7.mono y6s.size); have g7 := x7.c0; have d6 := x7.c5; have f6 := x7.fr 5; have x7s := x7.s5 ⟨#[]⟩; have r7s := r7.far w.heap.size 5 (.string ⟨#[]⟩) (by omega); have y7s := y7.setCell (p := ⟨w.heap.size, 5, none⟩) (Nat.le_refl _) (.string ⟨#[]⟩); have g7s := x7s.c0; have k0 := x7s.c0; have q0 := r7s.c0; have k1 := x7s.c1; have q1 := r7s.c1; have k2 := x7s.c2; have q2 := r7s.c2; have k3 := x7s.c3; have q3 := r7s.c3; have k4 := x7s.c4; have q4 := r7s.c4; have k5 := x7s.c5; have q5 := r7s.c5; have k6 := x7s.c6; have q6 := r7s.c6; have k7 := x7s.c7; have q7 := r7s.c7; have rf := r7s.fr))
 have hZ := setQ_AC k 0 N 0 ⟨#[]⟩ ⟨#[]⟩ false 0 r7s
 have hB2 := setQ_below k 0 N 0 ⟨#[]⟩ ⟨#[]⟩ false 0 y7s (show w.heap.size ≤ w.heap.size + 1 by omega)
 clear rf q0 q1 q2 q3 q4 q5 q6 q7
 change bodyPost _ _ _ _ _ (setQ (w7.setCell ⟨w.heap.size, 5, none⟩ (.string ⟨#[]⟩)) (w.heap.size + 1) k 0 N 0 ⟨#[]⟩ ⟨#[]⟩ false 0)
 generalize setQ (w7.setCell ⟨w.heap.size, 5, none⟩ (.string ⟨#[]⟩)) (w.heap.size + 1) k 0 N 0 ⟨#[]⟩ ⟨#[]⟩ false 0 = wz at *
 have q0 := hZ.c0
 have q1 := hZ.c1
 have q2 := hZ.c2
 have q3 := hZ.c3
 have q4 := hZ.c4
 have q5 := hZ.c5
 have q6 := hZ.c6
 have q7 := hZ.c7
 refine bodyPost_ret (by simp [results, Tryd.results14, go_sem, q0, q1, q2, q3, q4, q5, q6, q7]; rfl) rfl ?_
 exact ⟨rfl, hB2⟩
set_option maxHeartbeats 16000000 in
set_option maxRecDepth 100000 in
theorem rbare_3 (k n N K : Int) (s t : ByteArray) (b : Bool) (T : Int) (w : World) (hk : 0 ≤ k ∧ k < 11) (hh : hasB k = 3) :
  Calls Tryd.prog 14 #[.agg #[.int .i64 k, .int .i64 n, .int .i64 N, .int .i64 K, .string s, .string t, .bool b, .int .i64 T]] w fun e w' => e = .returned (.agg #[.int .i64 (kI (hasB k) k), .int .i64 (cI (hasB k) 0 n), .int .i64 (cI (hasB k) 1 N), .int .i64 (cI (hasB k) 2 K), .string (cS (hasB k) 5 s), .string (cS (hasB k) 6 t), .bool (cB (hasB k) 4 b), .int .i64 (cI (hasB k) 3 T)]) ∧ Below w.heap.size w w' := by
 have hu := Tryd.underlying23
 have e : ∀ (W : World) o, (W.alloc o).heap.size = W.heap.size + 1 := fun W o => by simp
 have x0 : AC ((w.alloc (.cells #[.int .i64 k, .int .i64 n, .int .i64 N, .int .i64 K, .string s, .string t, .bool b, .int .i64 T] 23)).alloc (.cells #[.int .i64 0, .int .i64 0, .int .i64 0, .int .i64 0, .string ⟨#[]⟩, .string ⟨#[]⟩, .bool false, .int .i64 0] 23)) w.heap.size k n N K s t b T := (AC.new w k n N K s t b T).alloc _
 have r0 : AC ((w.alloc (.cells #[.int .i64 k, .int .i64 n, .int .i64 N, .int .i64 K, .string s, .string t, .bool b, .int .i64 T] 23)).alloc (.cells #[.int .i64 0, .int .i64 0, .int .i64 0, .int .i64 0, .string ⟨#[]⟩, .string ⟨#[]⟩, .bool false, .int .i64 0] 23)) (w.heap.size + 1) 0 0 0 0 ⟨#[]⟩ ⟨#[]⟩ false 0 := by
  have h := AC.new (w.alloc (.cells #[.int .i64 k, .int .i64 n, .int .i64 N, .int .i64 K, .string s, .string t, .bool b, .int .i64 T] 23)) 0 0 0 0 ⟨#[]⟩ ⟨#[]⟩ false 0
  rw [e] at h
  exact h
 have y0 : Below w.heap.size w ((w.alloc (.cells #[.int .i64 k, .int .i64 n, .int .i64 N, .int .i64 K, .string s, .string t, .bool b, .int .i64 T] 23)).alloc (.cells #[.int .i64 0, .int .i64 0, .int .i64 0, .int .i64 0, .string ⟨#[]⟩, .string ⟨#[]⟩, .bool false, .int .i64 0] 23)) := ((Below.refl w.heap.size w).alloc (Nat.le_refl _) _).alloc (by rw [e]; omega) _
 clear e
 have g0 := x0.c0
 have n1 : ¬ k < 0 := by omega
 have n2 : ¬ 10 < k := by omega
 have hres : (.agg #[.int .i64 (kI (hasB k) k), .int .i64 (cI (hasB k) 0 n), .int .i64 (cI (hasB k) 1 N), .int .i64 (cI (hasB k) 2 K), .string (cS (hasB k) 5 s), .string (cS (hasB k) 6 t), .bool (cB (hasB k) 4 b), .int .i64 (cI (hasB k) 3 T)] : Value) = .agg #[.int .i64 k, .int .i64 n, .int .i64 N, .int .i64 0, .string ⟨#[]⟩, .string ⟨#[]⟩, .bool false, .int .i64 0] := by
    rw [hh, show kI 3 k = k from rfl]
    rfl
 rw [hres]
 clear hres
 have hs0 := hasr k hk 0 0 rfl (by decide) true (by rw [hh]; decide)
 have hs1 := hasr k hk 1 1 rfl (by decide) true (by rw [hh]; decide)
 have hs2 := hasr k hk 2 2 rfl (by decide) false (by rw [hh]; decide)
 have hs3 := hasr k hk 3 3 rfl (by decide) false (by rw [hh]; decide)
 have hs4 := hasr k hk 4 4 rfl (by decide) false (by rw [hh]; decide)
 have hs5 := hasr k hk 5 5 rfl (by decide) false (by rw [hh]; decide)
 have hs6 := hasr k hk 6 6 rfl (by decide) false (by rw [hh]; decide)
 clear hh hk
 go_enter Tryd.func14, Tryd.ntmps14
 go_wp2_with (first | (go_at_call 41; (with_reducible refine (hs0 _).mono ?_); rintro e w1 ⟨rfl, b1⟩; have x1 := x0.below b1; have r1 := r0.below b1; have y1 := y0.trans (b1.mono y0.size); have g1 := x1.c0) | (go_at_call 41; (with_reducible refine (hs1 _).mono ?_); rintro e w2 ⟨rfl, b2⟩; have x2 := x1.below b2; have r2 := r1.below b2; have y2 := y1.trans (b2.mono y1.size); have g2 := x2.c0) | (go_at_call 41; (with_reducible refine (hs2 _).mono ?_); rintro e w3 ⟨rfl, b3⟩; have x3 := x2.below b3; have r3 := r2.below b3; have y3 := y2.trans (b3.mono y2.size); have g3 := x3.c0; have d2 := x3.c3; have f2 := x3.fr 3; have x3s := x3.s3 0; have r3s := r3.far w.heap.size 3 (.int .i64 0) (by omega); have y3s := y3.setCell (p := ⟨w.heap.size, 3, none⟩) (Nat.le_refl _) (.int .i64 0); have g3s := x3s.c0) | (go_at_call 41; (with_reducible refine (hs3 _).mono ?_); rintro e w4 ⟨rfl, b4⟩; have x4 := x3s.below b4; have r4 := r3s.below b4; have y4 := y3s.trans (b4.mono y3s.size); have g4 := x4.c0; have d3 := x4.c7; have f3 := x4.fr 7; have x4s := x4.s7 0; have r4s := r4.far w.heap.size 7 (.int .i64 0) (by omega); have y4s := y4.setCell (p := ⟨w.heap.size, 7, none⟩) (Nat.le_refl _) (.int .i64 0); have g4s := x4s.c0) | (go_at_call 41; (with_reducible refine (hs4 _).mono ?_); rintro e w5 ⟨rfl, b5⟩; have x5 := x4s.below b5; have r5 := r4s.below b5; have y5 := y4s.trans (b5.mono y4s.size); have g5 := x5.c0; have d4 := x5.c6; have f4 := x5.fr 6; have x5s := x5.s6 false; have r5s := r5.far w.heap.size 6 (.bool false) (by omega); have y5s := y5.setCell (p := ⟨w.heap.size, 6, none⟩) (Nat.le_refl _) (.bool false); have g5s := x5s.c0) | (go_at_call 41; (with_reducible refine (hs5 _).mono ?_); rintro e w6 ⟨rfl, b6⟩; have x6 := x5s.below b6; have r6 := r5s.below b6; have y6 := y5s.trans (b6.mono y5s.size); have g6 := x6.c0; have d5 := x6.c4; have f5 := x6.fr 4; have x6s := x6.s4 ⟨#[]⟩; have r6s := r6.far w.heap.size 4 (.string ⟨#[]⟩) (by omega); have y6s := y6.setCell (p := ⟨w.heap.size, 4, none⟩) (Nat.le_refl _) (.string ⟨#[]⟩); have g6s := x6s.c0) | (go_at_call 41; (with_reducible refine (hs6 _).mono ?_); rintro e w7 ⟨rfl, b7⟩; have x7 := x6s.below b7; have r7 := r6s.below b7; have y7 := y6s.trans (b7.mono y6s.size); have g7 := x7.c0; have d6 := x7.c5; have f6 := x7.fr 5; have x7s := x7.s5 ⟨#[]⟩; have r7s := r7.far w.heap.size 5 (.string ⟨#[]⟩) (by omega); have y7s := y7.setCell (p := ⟨w.heap.size, 5, none⟩) (Nat.le_refl _) (.string ⟨#[]⟩); have g7s := x7s.c0; have k0 := x7s.c0; have q0 := r7s.c0; have k1 := x7s.c1; have q1 := r7s.c1; have k2 := x7s.c2; have q2 := r7s.c2; have k3 := x7s.c3; have q3 := r7s.c3; have k4 := x7s.c4; have q4 := r7s.c4; have k5 := x7s.c5; have q5 := r7s.c5; have k6 := x7s.c6; have q6 := r7s.c6; have k7 := x7s.c7; have q7 := r7s.c7; have rf := r7s.fr))
 have hZ := setQ_AC k n N 0 ⟨#[]⟩ ⟨#[]⟩ false 0 r7s
 have hB2 := setQ_below k n N 0 ⟨#[]⟩ ⟨#[]⟩ false 0 y7s (show w.heap.size ≤ w.heap.size + 1 by omega)
 clear rf q0 q1 q2 q3 q4 q5 q6 q7
 change bodyPost _ _ _ _ _ (setQ (w7.setCell ⟨w.heap.size, 5, none⟩ (.string ⟨#[]⟩)) (w.heap.size + 1) k n N 0 ⟨#[]⟩ ⟨#[]⟩ false 0)
 generalize setQ (w7.setCell ⟨w.heap.size, 5, none⟩ (.string ⟨#[]⟩)) (w.heap.size + 1) k n N 0 ⟨#[]⟩ ⟨#[]⟩ false 0 = wz at *
 have q0 := hZ.c0
 have q1 := hZ.c1
 have q2 := hZ.c2
 have q3 := hZ.c3
 have q4 := hZ.c4
 have q5 := hZ.c5
 have q6 := hZ.c6
 have q7 := hZ.c7
 refine bodyPost_ret (by simp [results, Tryd.results14, go_sem, q0, q1, q2, q3, q4, q5, q6, q7]; rfl) rfl ?_
 exact ⟨rfl, hB2⟩
set_option maxHeartbeats 16000000 in
set_option maxRecDepth 100000 in
theorem rbare_6 (k n N K : Int) (s t : ByteArray) (b : Bool) (T : Int) (w : World) (hk : 0 ≤ k ∧ k < 11) (hh : hasB k = 6) :
  Calls Tryd.prog 14 #[.agg #[.int .i64 k, .int .i64 n, .int .i64 N, .int .i64 K, .string s, .string t, .bool b, .int .i64 T]] w fun e w' => e = .returned (.agg #[.int .i64 (kI (hasB k) k), .int .i64 (cI (hasB k) 0 n), .int .i64 (cI (hasB k) 1 N), .int .i64 (cI (hasB k) 2 K), .string (cS (hasB k) 5 s), .string (cS (hasB k) 6 t), .bool (cB (hasB k) 4 b), .int .i64 (cI (hasB k) 3 T)]) ∧ Below w.heap.size w w' := by
 have hu := Tryd.underlying23
 have e : ∀ (W : World) o, (W.alloc o).heap.size = W.heap.size + 1 := fun W o => by simp
 have x0 : AC ((w.alloc (.cells #[.int .i64 k, .int .i64 n, .int .i64 N, .int .i64 K, .string s, .string t, .bool b, .int .i64 T] 23)).alloc (.cells #[.int .i64 0, .int .i64 0, .int .i64 0, .int .i64 0, .string ⟨#[]⟩, .string ⟨#[]⟩, .bool false, .int .i64 0] 23)) w.heap.size k n N K s t b T := (AC.new w k n N K s t b T).alloc _
 have r0 : AC ((w.alloc (.cells #[.int .i64 k, .int .i64 n, .int .i64 N, .int .i64 K, .string s, .string t, .bool b, .int .i64 T] 23)).alloc (.cells #[.int .i64 0, .int .i64 0, .int .i64 0, .int .i64 0, .string ⟨#[]⟩, .string ⟨#[]⟩, .bool false, .int .i64 0] 23)) (w.heap.size + 1) 0 0 0 0 ⟨#[]⟩ ⟨#[]⟩ false 0 := by
  have h := AC.new (w.alloc (.cells #[.int .i64 k, .int .i64 n, .int .i64 N, .int .i64 K, .string s, .string t, .bool b, .int .i64 T] 23)) 0 0 0 0 ⟨#[]⟩ ⟨#[]⟩ false 0
  rw [e] at h
  exact h
 have y0 : Below w.heap.size w ((w.alloc (.cells #[.int .i64 k, .int .i64 n, .int .i64 N, .int .i64 K, .string s, .string t, .bool b, .int .i64 T] 23)).alloc (.cells #[.int .i64 0, .int .i64 0, .int .i64 0, .int .i64 0, .string ⟨#[]⟩, .string ⟨#[]⟩, .bool false, .int .i64 0] 23)) := ((Below.refl w.heap.size w).alloc (Nat.le_refl _) _).alloc (by rw [e]; omega) _
 clear e
 have g0 := x0.c0
 have n1 : ¬ k < 0 := by omega
 have n2 : ¬ 10 < k := by omega
 have hres : (.agg #[.int .i64 (kI (hasB k) k), .int .i64 (cI (hasB k) 0 n), .int .i64 (cI (hasB k) 1 N), .int .i64 (cI (hasB k) 2 K), .string (cS (hasB k) 5 s), .string (cS (hasB k) 6 t), .bool (cB (hasB k) 4 b), .int .i64 (cI (hasB k) 3 T)] : Value) = .agg #[.int .i64 k, .int .i64 0, .int .i64 N, .int .i64 K, .string ⟨#[]⟩, .string ⟨#[]⟩, .bool false, .int .i64 0] := by
    rw [hh, show kI 6 k = k from rfl]
    rfl
 rw [hres]
 clear hres
 have hs0 := hasr k hk 0 0 rfl (by decide) false (by rw [hh]; decide)
 have hs1 := hasr k hk 1 1 rfl (by decide) true (by rw [hh]; decide)
 have hs2 := hasr k hk 2 2 rfl (by decide) true (by rw [hh]; decide)
 have hs3 := hasr k hk 3 3 rfl (by decide) false (by rw [hh]; decide)
 have hs4 := hasr k hk 4 4 rfl (by decide) false (by rw [hh]; decide)
 have hs5 := hasr k hk 5 5 rfl (by decide) false (by rw [hh]; decide)
 have hs6 := hasr k hk 6 6 rfl (by decide) false (by rw [hh]; decide)
 clear hh hk
 go_enter Tryd.func14, Tryd.ntmps14
 go_wp2_with (first | (go_at_call 41; (with_reducible refine (hs0 _).mono ?_); rintro e w1 ⟨rfl, b1⟩; have x1 := x0.below b1; have r1 := r0.below b1; have y1 := y0.trans (b1.mono y0.size); have g1 := x1.c0; have d0 := x1.c1; have f0 := x1.fr 1; have x1s := x1.s1 0; have r1s := r1.far w.heap.size 1 (.int .i64 0) (by omega); have y1s := y1.setCell (p := ⟨w.heap.size, 1, none⟩) (Nat.le_refl _) (.int .i64 0); have g1s := x1s.c0) | (go_at_call 41; (with_reducible refine (hs1 _).mono ?_); rintro e w2 ⟨rfl, b2⟩; have x2 := x1s.below b2; have r2 := r1s.below b2; have y2 := y1s.trans (b2.mono y1s.size); have g2 := x2.c0) | (go_at_call 41; (with_reducible refine (hs2 _).mono ?_); rintro e w3 ⟨rfl, b3⟩; have x3 := x2.below b3; have r3 := r2.below b3; have y3 := y2.trans (b3.mono y2.size); have g3 := x3.c0) | (go_at_call 41; (with_reducible refine (hs3 _).mono ?_); rintro e w4 ⟨rfl, b4⟩; have x4 := x3.below b4; have r4 := r3.below b4; have y4 := y3.trans (b4.mono y3.size); have g4 := x4.c0; have d3 := x4.c7; have f3 := x4.fr 7; have x4s := x4.s7 0; have r4s := r4.far w.heap.size 7 (.int .i64 0) (by omega); have y4s := y4.setCell (p := ⟨w.heap.size, 7, none⟩) (Nat.le_refl _) (.int .i64 0); have g4s := x4s.c0) | (go_at_call 41; (with_reducible refine (hs4 _).mono ?_); rintro e w5 ⟨rfl, b5⟩; have x5 := x4s.below b5; have r5 := r4s.below b5; have y5 := y4s.trans (b5.mono y4s.size); have g5 := x5.c0; have d4 := x5.c6; have f4 := x5.fr 6; have x5s := x5.s6 false; have r5s := r5.far w.heap.size 6 (.bool false) (by omega); have y5s := y5.setCell (p := ⟨w.heap.size, 6, none⟩) (Nat.le_refl _) (.bool false); have g5s := x5s.c0) | (go_at_call 41; (with_reducible refine (hs5 _).mono ?_); rintro e w6 ⟨rfl, b6⟩; have x6 := x5s.below b6; have r6 := r5s.below b6; have y6 := y5s.trans (b6.mono y5s.size); have g6 := x6.c0; have d5 := x6.c4; have f5 := x6.fr 4; have x6s := x6.s4 ⟨#[]⟩; have r6s := r6.far w.heap.size 4 (.string ⟨#[]⟩) (by omega); have y6s := y6.setCell (p := ⟨w.heap.size, 4, none⟩) (Nat.le_refl _) (.string ⟨#[]⟩); have g6s := x6s.c0) | (go_at_call 41; (with_reducible refine (hs6 _).mono ?_); rintro e w7 ⟨rfl, b7⟩; have x7 := x6s.below b7; have r7 := r6s.below b7; have y7 := y6s.trans (b7.mono y6s.size); have g7 := x7.c0; have d6 := x7.c5; have f6 := x7.fr 5; have x7s := x7.s5 ⟨#[]⟩; have r7s := r7.far w.heap.size 5 (.string ⟨#[]⟩) (by omega); have y7s := y7.setCell (p := ⟨w.heap.size, 5, none⟩) (Nat.le_refl _) (.string ⟨#[]⟩); have g7s := x7s.c0; have k0 := x7s.c0; have q0 := r7s.c0; have k1 := x7s.c1; have q1 := r7s.c1; have k2 := x7s.c2; have q2 := r7s.c2; have k3 := x7s.c3; have q3 := r7s.c3; have k4 := x7s.c4; have q4 := r7s.c4; have k5 := x7s.c5; have q5 := r7s.c5; have k6 := x7s.c6; have q6 := r7s.c6; have k7 := x7s.c7; have q7 := r7s.c7; have rf := r7s.fr))
 have hZ := setQ_AC k 0 N K ⟨#[]⟩ ⟨#[]⟩ false 0 r7s
 have hB2 := setQ_below k 0 N K ⟨#[]⟩ ⟨#[]⟩ false 0 y7s (show w.heap.size ≤ w.heap.size + 1 by omega)
 clear rf q0 q1 q2 q3 q4 q5 q6 q7
 change bodyPost _ _ _ _ _ (setQ (w7.setCell ⟨w.heap.size, 5, none⟩ (.string ⟨#[]⟩)) (w.heap.size + 1) k 0 N K ⟨#[]⟩ ⟨#[]⟩ false 0)
 generalize setQ (w7.setCell ⟨w.heap.size, 5, none⟩ (.string ⟨#[]⟩)) (w.heap.size + 1) k 0 N K ⟨#[]⟩ ⟨#[]⟩ false 0 = wz at *
 have q0 := hZ.c0
 have q1 := hZ.c1
 have q2 := hZ.c2
 have q3 := hZ.c3
 have q4 := hZ.c4
 have q5 := hZ.c5
 have q6 := hZ.c6
 have q7 := hZ.c7
 refine bodyPost_ret (by simp [results, Tryd.results14, go_sem, q0, q1, q2, q3, q4, q5, q6, q7]; rfl) rfl ?_
 exact ⟨rfl, hB2⟩
set_option maxHeartbeats 16000000 in
set_option maxRecDepth 100000 in
theorem rbare_51 (k n N K : Int) (s t : ByteArray) (b : Bool) (T : Int) (w : World) (hk : 0 ≤ k ∧ k < 11) (hh : hasB k = 51) :
  Calls Tryd.prog 14 #[.agg #[.int .i64 k, .int .i64 n, .int .i64 N, .int .i64 K, .string s, .string t, .bool b, .int .i64 T]] w fun e w' => e = .returned (.agg #[.int .i64 (kI (hasB k) k), .int .i64 (cI (hasB k) 0 n), .int .i64 (cI (hasB k) 1 N), .int .i64 (cI (hasB k) 2 K), .string (cS (hasB k) 5 s), .string (cS (hasB k) 6 t), .bool (cB (hasB k) 4 b), .int .i64 (cI (hasB k) 3 T)]) ∧ Below w.heap.size w w' := by
 have hu := Tryd.underlying23
 have e : ∀ (W : World) o, (W.alloc o).heap.size = W.heap.size + 1 := fun W o => by simp
 have x0 : AC ((w.alloc (.cells #[.int .i64 k, .int .i64 n, .int .i64 N, .int .i64 K, .string s, .string t, .bool b, .int .i64 T] 23)).alloc (.cells #[.int .i64 0, .int .i64 0, .int .i64 0, .int .i64 0, .string ⟨#[]⟩, .string ⟨#[]⟩, .bool false, .int .i64 0] 23)) w.heap.size k n N K s t b T := (AC.new w k n N K s t b T).alloc _
 have r0 : AC ((w.alloc (.cells #[.int .i64 k, .int .i64 n, .int .i64 N, .int .i64 K, .string s, .string t, .bool b, .int .i64 T] 23)).alloc (.cells #[.int .i64 0, .int .i64 0, .int .i64 0, .int .i64 0, .string ⟨#[]⟩, .string ⟨#[]⟩, .bool false, .int .i64 0] 23)) (w.heap.size + 1) 0 0 0 0 ⟨#[]⟩ ⟨#[]⟩ false 0 := by
  have h := AC.new (w.alloc (.cells #[.int .i64 k, .int .i64 n, .int .i64 N, .int .i64 K, .string s, .string t, .bool b, .int .i64 T] 23)) 0 0 0 0 ⟨#[]⟩ ⟨#[]⟩ false 0
  rw [e] at h
  exact h
 have y0 : Below w.heap.size w ((w.alloc (.cells #[.int .i64 k, .int .i64 n, .int .i64 N, .int .i64 K, .string s, .string t, .bool b, .int .i64 T] 23)).alloc (.cells #[.int .i64 0, .int .i64 0, .int .i64 0, .int .i64 0, .string ⟨#[]⟩, .string ⟨#[]⟩, .bool false, .int .i64 0] 23)) := ((Below.refl w.heap.size w).alloc (Nat.le_refl _) _).alloc (by rw [e]; omega) _
 clear e
 have g0 := x0.c0
 have n1 : ¬ k < 0 := by omega
 have n2 : ¬ 10 < k := by omega
 have hres : (.agg #[.int .i64 (kI (hasB k) k), .int .i64 (cI (hasB k) 0 n), .int .i64 (cI (hasB k) 1 N), .int .i64 (cI (hasB k) 2 K), .string (cS (hasB k) 5 s), .string (cS (hasB k) 6 t), .bool (cB (hasB k) 4 b), .int .i64 (cI (hasB k) 3 T)] : Value) = .agg #[.int .i64 k, .int .i64 n, .int .i64 N, .int .i64 0, .string s, .string ⟨#[]⟩, .bool b, .int .i64 0] := by
    rw [hh, show kI 51 k = k from rfl]
    rfl
 rw [hres]
 clear hres
 have hs0 := hasr k hk 0 0 rfl (by decide) true (by rw [hh]; decide)
 have hs1 := hasr k hk 1 1 rfl (by decide) true (by rw [hh]; decide)
 have hs2 := hasr k hk 2 2 rfl (by decide) false (by rw [hh]; decide)
 have hs3 := hasr k hk 3 3 rfl (by decide) false (by rw [hh]; decide)
 have hs4 := hasr k hk 4 4 rfl (by decide) true (by rw [hh]; decide)
 have hs5 := hasr k hk 5 5 rfl (by decide) true (by rw [hh]; decide)
 have hs6 := hasr k hk 6 6 rfl (by decide) false (by rw [hh]; decide)
 clear hh hk
 go_enter Tryd.func14, Tryd.ntmps14
 go_wp2_with (first | (go_at_call 41; (with_reducible refine (hs0 _).mono ?_); rintro e w1 ⟨rfl, b1⟩; have x1 := x0.below b1; have r1 := r0.below b1; have y1 := y0.trans (b1.mono y0.size); have g1 := x1.c0) | (go_at_call 41; (with_reducible refine (hs1 _).mono ?_); rintro e w2 ⟨rfl, b2⟩; have x2 := x1.below b2; have r2 := r1.below b2; have y2 := y1.trans (b2.mono y1.size); have g2 := x2.c0) | (go_at_call 41; (with_reducible refine (hs2 _).mono ?_); rintro e w3 ⟨rfl, b3⟩; have x3 := x2.below b3; have r3 := r2.below b3; have y3 := y2.trans (b3.mono y2.size); have g3 := x3.c0; have d2 := x3.c3; have f2 := x3.fr 3; have x3s := x3.s3 0; have r3s := r3.far w.heap.size 3 (.int .i64 0) (by omega); have y3s := y3.setCell (p := ⟨w.heap.size, 3, none⟩) (Nat.le_refl _) (.int .i64 0); have g3s := x3s.c0) | (go_at_call 41; (with_reducible refine (hs3 _).mono ?_); rintro e w4 ⟨rfl, b4⟩; have x4 := x3s.below b4; have r4 := r3s.below b4; have y4 := y3s.trans (b4.mono y3s.size); have g4 := x4.c0; have d3 := x4.c7; have f3 := x4.fr 7; have x4s := x4.s7 0; have r4s := r4.far w.heap.size 7 (.int .i64 0) (by omega); have y4s := y4.setCell (p := ⟨w.heap.size, 7, none⟩) (Nat.le_refl _) (.int .i64 0); have g4s := x4s.c0) | (go_at_call 41; (with_reducible refine (hs4 _).mono ?_); rintro e w5 ⟨rfl, b5⟩; have x5 := x4s.below b5; have r5 := r4s.below b5; have y5 := y4s.trans (b5.mono y4s.size); have g5 := x5.c0) | (go_at_call 41; (with_reducible refine (hs5 _).mono ?_); rintro e w6 ⟨rfl, b6⟩; have x6 := x5.below b6; have r6 := r5.below b6; have y6 := y5.trans (b6.mono y5.size); have g6 := x6.c0) | (go_at_call 41; (with_reducible refine (hs6 _).mono ?_); rintro e w7 ⟨rfl, b7⟩; have x7 := x6.below b7; have r7 := r6.below b7; have y7 := y6.trans (b7.mono y6.size); have g7 := x7.c0; have d6 := x7.c5; have f6 := x7.fr 5; have x7s := x7.s5 ⟨#[]⟩; have r7s := r7.far w.heap.size 5 (.string ⟨#[]⟩) (by omega); have y7s := y7.setCell (p := ⟨w.heap.size, 5, none⟩) (Nat.le_refl _) (.string ⟨#[]⟩); have g7s := x7s.c0; have k0 := x7s.c0; have q0 := r7s.c0; have k1 := x7s.c1; have q1 := r7s.c1; have k2 := x7s.c2; have q2 := r7s.c2; have k3 := x7s.c3; have q3 := r7s.c3; have k4 := x7s.c4; have q4 := r7s.c4; have k5 := x7s.c5; have q5 := r7s.c5; have k6 := x7s.c6; have q6 := r7s.c6; have k7 := x7s.c7; have q7 := r7s.c7; have rf := r7s.fr))
 have hZ := setQ_AC k n N 0 s ⟨#[]⟩ b 0 r7s
 have hB2 := setQ_below k n N 0 s ⟨#[]⟩ b 0 y7s (show w.heap.size ≤ w.heap.size + 1 by omega)
 clear rf q0 q1 q2 q3 q4 q5 q6 q7
 change bodyPost _ _ _ _ _ (setQ (w7.setCell ⟨w.heap.size, 5, none⟩ (.string ⟨#[]⟩)) (w.heap.size + 1) k n N 0 s ⟨#[]⟩ b 0)
 generalize setQ (w7.setCell ⟨w.heap.size, 5, none⟩ (.string ⟨#[]⟩)) (w.heap.size + 1) k n N 0 s ⟨#[]⟩ b 0 = wz at *
 have q0 := hZ.c0
 have q1 := hZ.c1
 have q2 := hZ.c2
 have q3 := hZ.c3
 have q4 := hZ.c4
 have q5 := hZ.c5
 have q6 := hZ.c6
 have q7 := hZ.c7
 refine bodyPost_ret (by simp [results, Tryd.results14, go_sem, q0, q1, q2, q3, q4, q5, q6, q7]; rfl) rfl ?_
 exact ⟨rfl, hB2⟩
set_option maxHeartbeats 16000000 in
set_option maxRecDepth 100000 in
theorem rbare_107 (k n N K : Int) (s t : ByteArray) (b : Bool) (T : Int) (w : World) (hk : 0 ≤ k ∧ k < 11) (hh : hasB k = 107) :
  Calls Tryd.prog 14 #[.agg #[.int .i64 k, .int .i64 n, .int .i64 N, .int .i64 K, .string s, .string t, .bool b, .int .i64 T]] w fun e w' => e = .returned (.agg #[.int .i64 (kI (hasB k) k), .int .i64 (cI (hasB k) 0 n), .int .i64 (cI (hasB k) 1 N), .int .i64 (cI (hasB k) 2 K), .string (cS (hasB k) 5 s), .string (cS (hasB k) 6 t), .bool (cB (hasB k) 4 b), .int .i64 (cI (hasB k) 3 T)]) ∧ Below w.heap.size w w' := by
 have hu := Tryd.underlying23
 have e : ∀ (W : World) o, (W.alloc o).heap.size = W.heap.size + 1 := fun W o => by simp
 have x0 : AC ((w.alloc (.cells #[.int .i64 k, .int .i64 n, .int .i64 N, .int .i64 K, .string s, .string t, .bool b, .int .i64 T] 23)).alloc (.cells #[.int .i64 0, .int .i64 0, .int .i64 0, .int .i64 0, .string ⟨#[]⟩, .string ⟨#[]⟩, .bool false, .int .i64 0] 23)) w.heap.size k n N K s t b T := (AC.new w k n N K s t b T).alloc _
 have r0 : AC ((w.alloc (.cells #[.int .i64 k, .int .i64 n, .int .i64 N, .int .i64 K, .string s, .string t, .bool b, .int .i64 T] 23)).alloc (.cells #[.int .i64 0, .int .i64 0, .int .i64 0, .int .i64 0, .string ⟨#[]⟩, .string ⟨#[]⟩, .bool false, .int .i64 0] 23)) (w.heap.size + 1) 0 0 0 0 ⟨#[]⟩ ⟨#[]⟩ false 0 := by
  have h := AC.new (w.alloc (.cells #[.int .i64 k, .int .i64 n, .int .i64 N, .int .i64 K, .string s, .string t, .bool b, .int .i64 T] 23)) 0 0 0 0 ⟨#[]⟩ ⟨#[]⟩ false 0
  rw [e] at h
  exact h
 have y0 : Below w.heap.size w ((w.alloc (.cells #[.int .i64 k, .int .i64 n, .int .i64 N, .int .i64 K, .string s, .string t, .bool b, .int .i64 T] 23)).alloc (.cells #[.int .i64 0, .int .i64 0, .int .i64 0, .int .i64 0, .string ⟨#[]⟩, .string ⟨#[]⟩, .bool false, .int .i64 0] 23)) := ((Below.refl w.heap.size w).alloc (Nat.le_refl _) _).alloc (by rw [e]; omega) _
 clear e
 have g0 := x0.c0
 have n1 : ¬ k < 0 := by omega
 have n2 : ¬ 10 < k := by omega
 have hres : (.agg #[.int .i64 (kI (hasB k) k), .int .i64 (cI (hasB k) 0 n), .int .i64 (cI (hasB k) 1 N), .int .i64 (cI (hasB k) 2 K), .string (cS (hasB k) 5 s), .string (cS (hasB k) 6 t), .bool (cB (hasB k) 4 b), .int .i64 (cI (hasB k) 3 T)] : Value) = .agg #[.int .i64 k, .int .i64 n, .int .i64 N, .int .i64 0, .string s, .string t, .bool false, .int .i64 T] := by
    rw [hh, show kI 107 k = k from rfl]
    rfl
 rw [hres]
 clear hres
 have hs0 := hasr k hk 0 0 rfl (by decide) true (by rw [hh]; decide)
 have hs1 := hasr k hk 1 1 rfl (by decide) true (by rw [hh]; decide)
 have hs2 := hasr k hk 2 2 rfl (by decide) false (by rw [hh]; decide)
 have hs3 := hasr k hk 3 3 rfl (by decide) true (by rw [hh]; decide)
 have hs4 := hasr k hk 4 4 rfl (by decide) false (by rw [hh]; decide)
 have hs5 := hasr k hk 5 5 rfl (by decide) true (by rw [hh]; decide)
 have hs6 := hasr k hk 6 6 rfl (by decide) true (by rw [hh]; decide)
 clear hh hk
 go_enter Tryd.func14, Tryd.ntmps14
 go_wp2_with (first | (go_at_call 41; (with_reducible refine (hs0 _).mono ?_); rintro e w1 ⟨rfl, b1⟩; have x1 := x0.below b1; have r1 := r0.below b1; have y1 := y0.trans (b1.mono y0.size); have g1 := x1.c0) | (go_at_call 41; (with_reducible refine (hs1 _).mono ?_); rintro e w2 ⟨rfl, b2⟩; have x2 := x1.below b2; have r2 := r1.below b2; have y2 := y1.trans (b2.mono y1.size); have g2 := x2.c0) | (go_at_call 41; (with_reducible refine (hs2 _).mono ?_); rintro e w3 ⟨rfl, b3⟩; have x3 := x2.below b3; have r3 := r2.below b3; have y3 := y2.trans (b3.mono y2.size); have g3 := x3.c0; have d2 := x3.c3; have f2 := x3.fr 3; have x3s := x3.s3 0; have r3s := r3.far w.heap.size 3 (.int .i64 0) (by omega); have y3s := y3.setCell (p := ⟨w.heap.size, 3, none⟩) (Nat.le_refl _) (.int .i64 0); have g3s := x3s.c0) | (go_at_call 41; (with_reducible refine (hs3 _).mono ?_); rintro e w4 ⟨rfl, b4⟩; have x4 := x3s.below b4; have r4 := r3s.below b4; have y4 := y3s.trans (b4.mono y3s.size); have g4 := x4.c0) | (go_at_call 41; (with_reducible refine (hs4 _).mono ?_); rintro e w5 ⟨rfl, b5⟩; have x5 := x4.below b5; have r5 := r4.below b5; have y5 := y4.trans (b5.mono y4.size); have g5 := x5.c0; have d4 := x5.c6; have f4 := x5.fr 6; have x5s := x5.s6 false; have r5s := r5.far w.heap.size 6 (.bool false) (by omega); have y5s := y5.setCell (p := ⟨w.heap.size, 6, none⟩) (Nat.le_refl _) (.bool false); have g5s := x5s.c0) | (go_at_call 41; (with_reducible refine (hs5 _).mono ?_); rintro e w6 ⟨rfl, b6⟩; have x6 := x5s.below b6; have r6 := r5s.below b6; have y6 := y5s.trans (b6.mono y5s.size); have g6 := x6.c0) | (go_at_call 41; (with_reducible refine (hs6 _).mono ?_); rintro e w7 ⟨rfl, b7⟩; have x7 := x6.below b7; have r7 := r6.below b7; have y7 := y6.trans (b7.mono y6.size); have g7 := x7.c0; have k0 := x7.c0; have q0 := r7.c0; have k1 := x7.c1; have q1 := r7.c1; have k2 := x7.c2; have q2 := r7.c2; have k3 := x7.c3; have q3 := r7.c3; have k4 := x7.c4; have q4 := r7.c4; have k5 := x7.c5; have q5 := r7.c5; have k6 := x7.c6; have q6 := r7.c6; have k7 := x7.c7; have q7 := r7.c7; have rf := r7.fr))
 have hZ := setQ_AC k n N 0 s t false T r7
 have hB2 := setQ_below k n N 0 s t false T y7 (show w.heap.size ≤ w.heap.size + 1 by omega)
 clear rf q0 q1 q2 q3 q4 q5 q6 q7
 change bodyPost _ _ _ _ _ (setQ w7 (w.heap.size + 1) k n N 0 s t false T)
 generalize setQ w7 (w.heap.size + 1) k n N 0 s t false T = wz at *
 have q0 := hZ.c0
 have q1 := hZ.c1
 have q2 := hZ.c2
 have q3 := hZ.c3
 have q4 := hZ.c4
 have q5 := hZ.c5
 have q6 := hZ.c6
 have q7 := hZ.c7
 refine bodyPost_ret (by simp [results, Tryd.results14, go_sem, q0, q1, q2, q3, q4, q5, q6, q7]; rfl) rfl ?_
 exact ⟨rfl, hB2⟩
set_option maxHeartbeats 16000000 in
set_option maxRecDepth 100000 in
theorem rbare_out (k n N K : Int) (s t : ByteArray) (b : Bool) (T : Int) (w : World) (hk : ¬ (0 ≤ k ∧ k < 11)) :
  Calls Tryd.prog 14 #[.agg #[.int .i64 k, .int .i64 n, .int .i64 N, .int .i64 K, .string s, .string t, .bool b, .int .i64 T]] w fun e w' => e = .returned (.agg #[.int .i64 (kI (hasB k) k), .int .i64 (cI (hasB k) 0 n), .int .i64 (cI (hasB k) 1 N), .int .i64 (cI (hasB k) 2 K), .string (cS (hasB k) 5 s), .string (cS (hasB k) 6 t), .bool (cB (hasB k) 4 b), .int .i64 (cI (hasB k) 3 T)]) ∧ Below w.heap.size w w' := by
 have hu := Tryd.underlying23
 have e : ∀ (W : World) o, (W.alloc o).heap.size = W.heap.size + 1 := fun W o => by simp
 have x0 : AC ((w.alloc (.cells #[.int .i64 k, .int .i64 n, .int .i64 N, .int .i64 K, .string s, .string t, .bool b, .int .i64 T] 23)).alloc (.cells #[.int .i64 0, .int .i64 0, .int .i64 0, .int .i64 0, .string ⟨#[]⟩, .string ⟨#[]⟩, .bool false, .int .i64 0] 23)) w.heap.size k n N K s t b T := (AC.new w k n N K s t b T).alloc _
 have r0 : AC ((w.alloc (.cells #[.int .i64 k, .int .i64 n, .int .i64 N, .int .i64 K, .string s, .string t, .bool b, .int .i64 T] 23)).alloc (.cells #[.int .i64 0, .int .i64 0, .int .i64 0, .int .i64 0, .string ⟨#[]⟩, .string ⟨#[]⟩, .bool false, .int .i64 0] 23)) (w.heap.size + 1) 0 0 0 0 ⟨#[]⟩ ⟨#[]⟩ false 0 := by
  have h := AC.new (w.alloc (.cells #[.int .i64 k, .int .i64 n, .int .i64 N, .int .i64 K, .string s, .string t, .bool b, .int .i64 T] 23)) 0 0 0 0 ⟨#[]⟩ ⟨#[]⟩ false 0
  rw [e] at h
  exact h
 have y0 : Below w.heap.size w ((w.alloc (.cells #[.int .i64 k, .int .i64 n, .int .i64 N, .int .i64 K, .string s, .string t, .bool b, .int .i64 T] 23)).alloc (.cells #[.int .i64 0, .int .i64 0, .int .i64 0, .int .i64 0, .string ⟨#[]⟩, .string ⟨#[]⟩, .bool false, .int .i64 0] 23)) := ((Below.refl w.heap.size w).alloc (Nat.le_refl _) _).alloc (by rw [e]; omega) _
 clear e
 have g0 := x0.c0
 rw [show hasB k = 0 from if_neg hk]
 have hres : (.agg #[.int .i64 (kI 0 k), .int .i64 (cI 0 0 n), .int .i64 (cI 0 1 N), .int .i64 (cI 0 2 K), .string (cS 0 5 s), .string (cS 0 6 t), .bool (cB 0 4 b), .int .i64 (cI 0 3 T)] : Value) = .agg #[.int .i64 0, .int .i64 0, .int .i64 0, .int .i64 0, .string ⟨#[]⟩, .string ⟨#[]⟩, .bool false, .int .i64 0] := by
  simp only [kI, cI, cS, cB, bH_none (show 0 < 7 by decide), bH_none (show 1 < 7 by decide), bH_none (show 2 < 7 by decide), bH_none (show 3 < 7 by decide), bH_none (show 4 < 7 by decide), bH_none (show 5 < 7 by decide), bH_none (show 6 < 7 by decide), if_true, Bool.false_eq_true, if_false]
 rw [hres]
 clear hres
 have q0 := r0.c0
 have q1 := r0.c1
 have q2 := r0.c2
 have q3 := r0.c3
 have q4 := r0.c4
 have q5 := r0.c5
 have q6 := r0.c6
 have q7 := r0.c7
 have rf := r0.fr
 by_cases h0 : k < 0
 ·go_enter Tryd.func14, Tryd.ntmps14
  go_wp2
  refine bodyPost_ret (by simp [results, Tryd.results14, go_sem, q0, q1, q2, q3, q4, q5, q6, q7]; rfl) rfl ?_
  exact ⟨rfl, y0⟩
 ·have h1 : 10 < k := by omega
  go_enter Tryd.func14, Tryd.ntmps14
  go_wp2
  refine bodyPost_ret (by simp [results, Tryd.results14, go_sem, q0, q1, q2, q3, q4, q5, q6, q7]; rfl) rfl ?_
  exact ⟨rfl, y0⟩
set_option maxHeartbeats 16000000 in
set_option maxRecDepth 100000 in
theorem rbare_walk (k n N K : Int) (s t : ByteArray) (b : Bool) (T : Int) (w : World) :
  Calls Tryd.prog 14 #[.agg #[.int .i64 k, .int .i64 n, .int .i64 N, .int .i64 K, .string s, .string t, .bool b, .int .i64 T]] w fun e w' => e = .returned (.agg #[.int .i64 (kI (hasB k) k), .int .i64 (cI (hasB k) 0 n), .int .i64 (cI (hasB k) 1 N), .int .i64 (cI (hasB k) 2 K), .string (cS (hasB k) 5 s), .string (cS (hasB k) 6 t), .bool (cB (hasB k) 4 b), .int .i64 (cI (hasB k) 3 T)]) ∧ Below w.heap.size w w' := by
 by_cases hk : 0 ≤ k ∧ k < 11
 ·have hk' : k = 0 ∨ k = 1 ∨ k = 2 ∨ k = 3 ∨ k = 4 ∨ k = 5 ∨ k = 6 ∨ k = 7 ∨ k = 8 ∨ k = 9 ∨ k = 10 := by omega
  rcases hk' with rfl | rfl | rfl | rfl | rfl | rfl | rfl | rfl | rfl | rfl | rfl
  ·exact rbare_107 _ n N K s t b T w hk rfl
  ·exact rbare_3 _ n N K s t b T w hk rfl
  ·exact rbare_3 _ n N K s t b T w hk rfl
  ·exact rbare_51 _ n N K s t b T w hk rfl
  ·exact rbare_1 _ n N K s t b T w hk rfl
  ·exact rbare_2 _ n N K s t b T w hk rfl
  ·exact rbare_2 _ n N K s t b T w hk rfl
  ·exact rbare_2 _ n N K s t b T w hk rfl
  ·exact rbare_6 _ n N K s t b T w hk rfl
  ·exact rbare_1 _ n N K s t b T w hk rfl
  ·exact rbare_1 _ n N K s t b T w hk rfl
 ·exact rbare_out k n N K s t b T w hk
end Go.Proofs.YtjjimkmbbifbjaaDoor.SW
namespace Go.Proofs.YtjjimkmbbifbjaaDoor
open Go Go.RowKit Go.Proofs.YtjjimkmbbifbjaaDoor.SW
def rivuletref23_Bare.f (k n N K : Int) (s t : ByteArray) (b : Bool) (T : Int) : Option (Int × Int × Int × Int × ByteArray × ByteArray × Bool × Int) := script_Bare.f k n N K s t b T
theorem rivuletref23_Bare.calls (k n N K : Int) (s t : ByteArray) (b : Bool) (T : Int) (r1 r2 r3 r4 : Int) (r5 r6 : ByteArray) (r7 : Bool) (r8 : Int) (w : World) (h : rivuletref23_Bare.f k n N K s t b T = some (r1, r2, r3, r4, r5, r6, r7, r8)) :
  Calls Tryd.prog 14 #[.agg #[.int .i64 k, .int .i64 n, .int .i64 N, .int .i64 K, .string s, .string t, .bool b, .int .i64 T]] w fun e w' => e = .returned (.agg #[.int .i64 r1, .int .i64 r2, .int .i64 r3, .int .i64 r4, .string r5, .string r6, .bool r7, .int .i64 r8]) ∧ Below w.heap.size w w' := by
 cases h
 exact rbare_walk k n N K s t b T w
end Go.Proofs.YtjjimkmbbifbjaaDoor
