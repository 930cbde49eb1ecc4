import Derived.Deep.RegionHeld3
import Derived.Test.YtdoaomoocikmaaaDoorKSame26
namespace Go.Proofs.YtdoaomoocikmaaaDoor.EW
open Go Go.RowKit Go.Shelf Go.Proofs.YtdoaomoocikmaaaDoor Go.Proofs.YtdoaomoocikmaaaDoor.EB Go.Proofs.YtdoaomoocikmaaaDoor.VP Go.Proofs.YtdoaomoocikmaaaDoor.VF Go.Proofs.YtdoaomoocikmaaaDoorW.PrintWords
theorem put_parts (o q : Int) (t l : ByteArray) (m : Int) : strOfNums (putE o q t l m) = ((((strOfNums (enc o)) ++ strOfNums (enc q)) ++ strOfNums (enc m)) ++ (strOfNums (enc t.size) ++ t)) ++ (strOfNums (enc l.size) ++ l) := by
  unfold putE
  rw [← son_append, ← son_append, ← son_append, ← son_append, ← son_append, ← son_append, son_bytes, son_bytes]
  apply ByteArray.ext
  simp [Array.append_assoc]
theorem enc_size (n : Int) : (strOfNums (enc n)).size ≤ 9 := by rw [strOfNums_size, enc_length]; have := sz_bd n; omega
set_option maxHeartbeats 8000000 in
set_option maxRecDepth 100000 in
theorem put_walk (o q : Int) (t l : ByteArray) (m : Int) (ht : t.size ≤ 900000) (hl : l.size ≤ 900000) (w : World) :
    Calls Tryd.prog 13 #[.agg #[.int .i64 o, .int .i64 q, .string t, .string l, .int .i64 m]] w fun e w' => e = .returned (.string (putB o q t l m)) ∧ Below w.heap.size w w' := by
  have i0 := arr0
  have i1 := arr1
  have i2 := arr2
  have hw := fun w => right_walk o q t l m ht w
  unfold putB
  have x0 : XB (w.alloc (.cells #[.int .i64 o, .int .i64 q, .string t, .string l, .int .i64 m] 23)) w.heap.size o q t l m := World.alloc_heap_new w _
  have y0 : Below w.heap.size w (w.alloc (.cells #[.int .i64 o, .int .i64 q, .string t, .string l, .int .i64 m] 23)) := (Below.refl _ w).alloc (Nat.le_refl _) _
  have g0 := x0.c0
  have g1 := x0.c1
  have g2 := x0.c2
  have g3 := x0.c3
  have g4 := x0.c4
  cases hq : rightE o q t l m with
  | false =>
    rw [hq] at hw
    rw [if_neg (by decide)]
    go_enter Tryd.func13, Tryd.ntmps13
    go_wp2_with (go_at_call 11; (with_reducible refine (hw _).mono ?_); rintro e w1 ⟨rfl, b1⟩
                 have y1 := y0.trans (b1.mono y0.size))
    go_returns
    exact ⟨rfl, y1⟩
  | true =>
    rw [hq] at hw
    rw [if_pos rfl, put_parts]
    have hb : 0 ≤ o ∧ o ≤ 1099511627776 ∧ 1 ≤ q ∧ q ≤ 1099511627776 ∧ 0 ≤ m ∧ m ≤ 1000 ∧ l.size ≤ 64 := by
      unfold rightE at hq
      simp only [Bool.and_eq_true, decide_eq_true_eq] at hq
      omega
    obtain ⟨o0, o1, q0, q1, m0, m1, l1⟩ := hb
    clear hq
    have hp1 := fun w => vput_walk o (by omega) (by omega) w
    have hp2 := fun w => vput_walk q (by omega) (by omega) w
    have hp3 := fun w => vput_walk m (by omega) (by omega) w
    have hp4 := fun w => vtext_walk t (by omega) w
    have hp5 := fun w => vtext_walk l (by omega) w
    have z1 := enc_size o
    have z2 := enc_size q
    have z3 := enc_size m
    have z4 : (strOfNums (enc t.size) ++ t).size ≤ 900009 := by rw [ByteArray.size_append]; have := enc_size t.size; omega
    have z5 : (strOfNums (enc l.size) ++ l).size ≤ 900009 := by rw [ByteArray.size_append]; have := enc_size l.size; omega
    generalize strOfNums (enc o) = P1 at *
    generalize strOfNums (enc q) = P2 at *
    generalize strOfNums (enc m) = P3 at *
    generalize strOfNums (enc t.size) ++ t = P4 at *
    generalize strOfNums (enc l.size) ++ l = P5 at *
    have u1 : IntKind.u64.wrap o = o := u64 (by omega)
    have u2 : IntKind.u64.wrap q = q := u64 (by omega)
    have u3 : IntKind.u64.wrap m = m := u64 (by omega)
    go_enter Tryd.func13, Tryd.ntmps13
    go_wp2_with (go_at_call 11; (with_reducible refine (hw _).mono ?_); rintro e w1 ⟨rfl, b1⟩
                 have y1 := y0.trans (b1.mono y0.size)
                 have x1 := x0.below b1
                 clear g0 g1 g2 g3 g4 b1
                 have g0 := x1.c0)
    refine wp_loop_rounds 4 ?_
    rw [rounds_succ]
    go_wp2_with fail
    refine (hp1 _).mono ?_
    rintro e w2 ⟨rfl, b2⟩
    have y2 := y1.trans (b2.mono y1.size)
    have x2 := x1.below b2
    clear g0 b2 x1 y1
    have g1 := x2.c1
    go_wp2
    rw [rounds_succ]
    go_wp2_with fail
    refine (hp2 _).mono ?_
    rintro e w3 ⟨rfl, b3⟩
    have y3 := y2.trans (b3.mono y2.size)
    have x3 := x2.below b3
    clear g1 b3 x2 y2
    have g4 := x3.c4
    go_wp2
    rw [rounds_succ]
    go_wp2_with fail
    refine (hp3 _).mono ?_
    rintro e w4 ⟨rfl, b4⟩
    have y4 := y3.trans (b4.mono y3.size)
    have x4 := x3.below b4
    clear g4 b4 x3 y3
    have g2 := x4.c2
    have g3 := x4.c3
    go_wp2
    rw [rounds_succ]
    go_wp2
    have x4d : XB w4.drew w.heap.size o q t l m := x4
    have y4d := y4.drew
    have e0 : (⟨#[]⟩ : ByteArray) ++ P1 = P1 := by apply ByteArray.ext; simp
    rw [e0]
    have s1 : (P1 ++ P2 ++ P3).size ≤ 27 := by rw [ByteArray.size_append, ByteArray.size_append]; omega
    obtain ⟨Q, hQ⟩ : ∃ Q, P1 ++ P2 ++ P3 = Q := ⟨_, rfl⟩
    rw [hQ] at s1 ⊢
    have s2 : ¬ 9223372036854775807 < Q.size + P4.size := by omega
    have s3 : ¬ 9223372036854775807 < Q.size + P4.size + P5.size := by omega
    have s4 : ¬ 9223372036854775807 < (Q ++ P4).size + P5.size := by rw [ByteArray.size_append]; omega
    clear s1
    replace hQ := Lib.hid hQ
    clear e0
    go_region_held3 (fun W => W.cell? ⟨w.heap.size, 2, none⟩ = some (.string t) ∧ W.cell? ⟨w.heap.size, 3, none⟩ = some (.string l)) (first | exact ⟨g2, g3⟩ | go_keep | exact ⟨d2, d3⟩) (first
      | (go_at_call 36; (with_reducible refine (hp4 _).mono ?_); rintro e w5 ⟨rfl, b5⟩
         have x5 := x4d.below b5
         have y5 := y4d.trans (b5.mono y4d.size)
         have d2 := x5.c2
         have d3 := x5.c3)
      | (go_at_call 36; (with_reducible refine (hp5 _).mono ?_); rintro e w6 ⟨rfl, b6⟩
         have y6 := y5.trans (b6.mono y5.size)
         have d2 := (x5.below b6).c2
         have d3 := (x5.below b6).c3))
    all_goals
      go_wp2
      go_returns
      exact ⟨by rw [hQ.out]; rfl, y6⟩
end Go.Proofs.YtdoaomoocikmaaaDoor.EW
