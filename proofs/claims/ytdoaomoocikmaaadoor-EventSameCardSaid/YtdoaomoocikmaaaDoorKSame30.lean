import Derived.Lib.AppendIntMem
import Derived.Lib.ItoaLen
import Derived.Test.YtdoaomoocikmaaaDoorKSame28
import Derived.Test.YtdoaomoocikmaaaDoorKSame29
namespace Go.Proofs.YtdoaomoocikmaaaDoor.EW
open Go Go.RowKit Go.Shelf Go.Proofs.YtdoaomoocikmaaaDoor Go.Proofs.YtdoaomoocikmaaaDoor.EB Go.Proofs.YtdoaomoocikmaaaDoor.VP Go.Proofs.YtdoaomoocikmaaaDoor.VF Go.Proofs.YtdoaomoocikmaaaDoorW.PrintWords
def itS (n : Int) : ByteArray := ⟨(Lib.itoa n).toArray⟩
def Tab (B : Nat) (w : World) : Prop := Lib.TabBelow Tryd.prog B w "internal/strconv.uint64pow10" .u64 Lib.pow10Tab
theorem Tab.on {B : Nat} {w w2 : World} (h : Tab B w) (hb : Below B w w2) : Tab B w2 := Lib.TabBelow.on h hb
def showS (o q : Int) (t l : ByteArray) (m : Int) : ByteArray := (((((((itS o ++ (⟨#[58]⟩ : ByteArray)) ++ itS q) ++ (⟨#[32]⟩ : ByteArray)) ++ t) ++ (⟨#[32]⟩ : ByteArray)) ++ itS l.size) ++ (⟨#[32]⟩ : ByteArray)) ++ itS m
def showB (o q : Int) (t l : ByteArray) (m : Int) : ByteArray := if rightE o q t l m = true then showS o q t l m else ⟨#[]⟩
theorem it_size {n : Int} (h0 : -9223372036854775808 ≤ n) (h1 : n ≤ 9223372036854775807) : (itS n).size ≤ 21 := by
  have := Lib.itoa_length_le n h0 h1
  unfold itS
  simpa [ByteArray.size] using this
theorem sz1 (c : UInt8) : (⟨#[c]⟩ : ByteArray).size = 1 := rfl
set_option maxHeartbeats 8000000 in
set_option maxRecDepth 100000 in
theorem show_core (o q : Int) (t l : ByteArray) (m : Int) (ht : t.size ≤ 900000) (hl : l.size ≤ 900000) (w : World) (P : World → Prop) (hP : ∀ w2, Below w.heap.size w w2 → P w2)
    (hI : rightE o q t l m = true → ∀ n : Int, (n = o ∨ n = q ∨ n = l.size ∨ n = m) → 0 ≤ n → n ≤ 1099511627776 → ∀ w2, P w2 → Calls Tryd.prog 39 #[.int .i64 n] w2 fun e w' => e = .returned (.string (itS n)) ∧ Below w2.heap.size w2 w') :
    Calls Tryd.prog 15 #[.agg #[.int .i64 o, .int .i64 q, .string t, .string l, .int .i64 m]] w fun e w' => e = .returned (.string (showB o q t l m)) ∧ Below w.heap.size w w' := by
  have hw := fun w => right_walk o q t l m ht w
  unfold showB
  have x0 : XB (w.alloc (.cells #[.int .i64 o, .int .i64 q, .string t, .string l, .int .i64 m] 23)) w.heap.size o q t l m := World.alloc_heap_new w _
  have y0 : Below w.heap.size w (w.alloc (.cells #[.int .i64 o, .int .i64 q, .string t, .string l, .int .i64 m] 23)) := (Below.refl _ w).alloc (Nat.le_refl _) _
  have g0 := x0.c0
  have g1 := x0.c1
  have g2 := x0.c2
  have g3 := x0.c3
  have g4 := x0.c4
  cases hq : rightE o q t l m with
  | false =>
    rw [hq] at hw
    rw [if_neg (by decide)]
    go_enter Tryd.func15, Tryd.ntmps15
    go_wp2_with (go_at_call 11; (with_reducible refine (hw _).mono ?_); rintro e w1 ⟨rfl, b1⟩
                 have y1 := y0.trans (b1.mono y0.size))
    go_returns
    exact ⟨rfl, y1⟩
  | true =>
    rw [hq] at hw
    replace hI := hI hq
    rw [if_pos rfl]
    have hb : 0 ≤ o ∧ o ≤ 1099511627776 ∧ 1 ≤ q ∧ q ≤ 1099511627776 ∧ 0 ≤ m ∧ m ≤ 1000 ∧ l.size ≤ 64 := by
      unfold rightE at hq
      simp only [Bool.and_eq_true, decide_eq_true_eq] at hq
      omega
    obtain ⟨o0, o1, q0, q1, m0, m1, l1⟩ := hb
    clear hq
    have hp1 := fun w2 (T2 : P w2) => hI o (.inl rfl) (by omega) (by omega) w2 T2
    have hp2 := fun w2 (T2 : P w2) => hI q (.inr (.inl rfl)) (by omega) (by omega) w2 T2
    have hp3 := fun w2 (T2 : P w2) => hI (l.size : Int) (.inr (.inr (.inl rfl))) (by omega) (by omega) w2 T2
    have hp4 := fun w2 (T2 : P w2) => hI m (.inr (.inr (.inr rfl))) (by omega) (by omega) w2 T2
    clear hI
    have z1 := it_size (n := o) (by omega) (by omega)
    have z2 := it_size (n := q) (by omega) (by omega)
    have z3 := it_size (n := (l.size : Int)) (by omega) (by omega)
    have z4 := it_size (n := m) (by omega) (by omega)
    unfold showS
    generalize itS o = I1 at *
    generalize itS q = I2 at *
    generalize itS (l.size : Int) = I3 at *
    generalize itS m = I4 at *
    obtain ⟨E1, hE1⟩ : ∃ E : ByteArray, I1 ++ (⟨#[58]⟩ : ByteArray) = E := ⟨_, rfl⟩
    have s1 : E1.size ≤ 22 := by rw [← hE1, ByteArray.size_append, sz1]; omega
    obtain ⟨E2, hE2⟩ : ∃ E : ByteArray, E1 ++ I2 = E := ⟨_, rfl⟩
    have s2 : E2.size ≤ 43 := by rw [← hE2, ByteArray.size_append]; omega
    obtain ⟨E3, hE3⟩ : ∃ E : ByteArray, E2 ++ (⟨#[32]⟩ : ByteArray) = E := ⟨_, rfl⟩
    have s3 : E3.size ≤ 44 := by rw [← hE3, ByteArray.size_append, sz1]; omega
    obtain ⟨E4, hE4⟩ : ∃ E : ByteArray, E3 ++ t = E := ⟨_, rfl⟩
    have s4 : E4.size ≤ 900044 := by rw [← hE4, ByteArray.size_append]; omega
    obtain ⟨E5, hE5⟩ : ∃ E : ByteArray, E4 ++ (⟨#[32]⟩ : ByteArray) = E := ⟨_, rfl⟩
    have s5 : E5.size ≤ 900045 := by rw [← hE5, ByteArray.size_append, sz1]; omega
    obtain ⟨E6, hE6⟩ : ∃ E : ByteArray, E5 ++ I3 = E := ⟨_, rfl⟩
    have s6 : E6.size ≤ 900066 := by rw [← hE6, ByteArray.size_append]; omega
    obtain ⟨E7, hE7⟩ : ∃ E : ByteArray, E6 ++ (⟨#[32]⟩ : ByteArray) = E := ⟨_, rfl⟩
    have s7 : E7.size ≤ 900067 := by rw [← hE7, ByteArray.size_append, sz1]; omega
    obtain ⟨E8, hE8⟩ : ∃ E : ByteArray, E7 ++ I4 = E := ⟨_, rfl⟩
    rw [hE1, hE2, hE3, hE4, hE5, hE6, hE7, hE8]
    have n1 : ¬ 9223372036854775807 < I1.size + 1 := by omega
    have n2 : ¬ 9223372036854775807 < E1.size + I2.size := by omega
    have n3 : ¬ 9223372036854775807 < E2.size + 1 := by omega
    have n4 : ¬ 9223372036854775807 < E3.size + t.size := by omega
    have n5 : ¬ 9223372036854775807 < E4.size + 1 := by omega
    have n6 : ¬ 9223372036854775807 < E5.size + I3.size := by omega
    have n7 : ¬ 9223372036854775807 < E6.size + 1 := by omega
    have n8 : ¬ 9223372036854775807 < E7.size + I4.size := by omega
    clear s1 s2 s3 s4 s5 s6 s7 z1 z2 z3 z4
    go_enter Tryd.func15, Tryd.ntmps15
    go_wp2_with (go_at_call 11; (with_reducible refine (hw _).mono ?_); rintro e w1 ⟨rfl, b1⟩
                 have y1 := y0.trans (b1.mono y0.size)
                 have x1 := x0.below b1
                 have T1 := hP _ y1
                 clear g0 g1 g2 g3 g4 b1 x0 y0
                 have g0 := x1.c0
                 have g1 := x1.c1
                 have g2 := x1.c2
                 have g3 := x1.c3
                 have g4 := x1.c4)
    have xd : XB w1.drew w.heap.size o q t l m := x1
    have yd := y1.drew
    have Td : P w1.drew := hP _ yd
    clear x1 y1 T1
    go_region_held3 (fun W => W.cell? ⟨w.heap.size, 0, none⟩ = some (.int .i64 o) ∧ W.cell? ⟨w.heap.size, 1, none⟩ = some (.int .i64 q) ∧ W.cell? ⟨w.heap.size, 2, none⟩ = some (.string t) ∧ W.cell? ⟨w.heap.size, 3, none⟩ = some (.string l) ∧ W.cell? ⟨w.heap.size, 4, none⟩ = some (.int .i64 m)) (first | exact ⟨g0, g1, g2, g3, g4⟩ | go_keep | exact ⟨d0, d1, d2, d3, d4⟩) (first
      | (go_at_call 39; (with_reducible refine (hp1 _ Td).mono ?_); rintro e w5 ⟨rfl, b5⟩
         have x5 := xd.below b5
         have y5 := yd.trans (b5.mono yd.size)
         have T5 := hP _ y5
         clear b5
         have d0 := x5.c0
         have d1 := x5.c1
         have d2 := x5.c2
         have d3 := x5.c3
         have d4 := x5.c4)
      | (go_at_call 39; (with_reducible refine (hp2 _ T5).mono ?_); rintro e w6 ⟨rfl, b6⟩
         have x6 := x5.below b6
         have y6 := y5.trans (b6.mono y5.size)
         have T6 := hP _ y6
         clear b6 d0 d1 d2 d3 d4
         have d0 := x6.c0
         have d1 := x6.c1
         have d2 := x6.c2
         have d3 := x6.c3
         have d4 := x6.c4)
      | (go_at_call 39; (with_reducible refine (hp3 _ T6).mono ?_); rintro e w7 ⟨rfl, b7⟩
         have x7 := x6.below b7
         have y7 := y6.trans (b7.mono y6.size)
         have T7 := hP _ y7
         clear b7 d0 d1 d2 d3 d4
         have d0 := x7.c0
         have d1 := x7.c1
         have d2 := x7.c2
         have d3 := x7.c3
         have d4 := x7.c4)
      | (go_at_call 39; (with_reducible refine (hp4 _ T7).mono ?_); rintro e w8 ⟨rfl, b8⟩
         have x8 := x7.below b8
         have y8 := y7.trans (b8.mono y7.size)
         clear b8 d0 d1 d2 d3 d4
         have d0 := x8.c0
         have d1 := x8.c1
         have d2 := x8.c2
         have d3 := x8.c3
         have d4 := x8.c4))
    all_goals
      go_wp2
      go_returns
      exact ⟨rfl, y8⟩
theorem itoa_small (n : Int) (h0 : 0 ≤ n) (h1 : n < 100) (w : World) :
    Calls Tryd.prog 39 #[.int .i64 n] w fun e w' => e = .returned (.string (itS n)) ∧ Below w.heap.size w w' := by
  obtain ⟨i, rfl⟩ : ∃ i : Nat, n = i := ⟨n.toNat, by omega⟩
  refine (Tryd.strconv_Itoa_small i (by omega) w).mono ?_
  rintro e w2 ⟨rfl, rfl⟩
  refine ⟨?_, Below.refl _ _⟩
  unfold itS Lib.itoa
  rw [if_neg (by omega)]
  rfl
theorem show_small (o q : Int) (t l : ByteArray) (m : Int) (ht : t.size ≤ 900000) (ho : o < 100) (hq : q < 100) (hl : l.size < 100) (hm : m < 100) (w : World) :
    Calls Tryd.prog 15 #[.agg #[.int .i64 o, .int .i64 q, .string t, .string l, .int .i64 m]] w fun e w' => e = .returned (.string (showB o q t l m)) ∧ Below w.heap.size w w' :=
  show_core o q t l m ht (by omega) w (fun _ => True) (fun _ _ => trivial) (fun _ n hn h0 _ w2 _ => itoa_small n h0 (by omega) w2)
theorem show_no (o q : Int) (t l : ByteArray) (m : Int) (ht : t.size ≤ 900000) (hl : l.size ≤ 900000) (h : rightE o q t l m = false) (w : World) :
    Calls Tryd.prog 15 #[.agg #[.int .i64 o, .int .i64 q, .string t, .string l, .int .i64 m]] w fun e w' => e = .returned (.string (showB o q t l m)) ∧ Below w.heap.size w w' :=
  show_core o q t l m ht hl w (fun _ => True) (fun _ _ => trivial) (fun g => by rw [h] at g; cases g)
end Go.Proofs.YtdoaomoocikmaaaDoor.EW
