import Derived.Lib.Hide
import Derived.Test.YtjjimkmbbifbjaaDoorKCuts18
import Derived.Test.YtjjimkmbbifbjaaDoorKCuts19
import Derived.Test.YtjjimkmbbifbjaaDoorKCuts12
namespace Go.Proofs.YtjjimkmbbifbjaaDoor.SP
open Go Go.RowKit Go.Shelf Go.Proofs.YtjjimkmbbifbjaaDoor Go.Proofs.YtjjimkmbbifbjaaDoor.SW Go.Proofs.YtjjimkmbbifbjaaDoor.VP Go.Proofs.YtjjimkmbbifbjaaDoor.VF Go.Proofs.YtjjimkmbbifbjaaDoor.TP Go.Proofs.YtjjimkmbbifbjaaDoor.Pv Go.Proofs.YtjjimkmbbifbjaaDoorW.PrintWords
def flagS (b : Bool) : ByteArray := if b = true then ⟨#[1]⟩ else ⟨#[0]⟩
def headS (k : Int) : ByteArray := strOfNums [k % 256]
def accN (h : Int) (S0 : ByteArray) (v : Nat → Int) : Nat → ByteArray
  | 0 => S0
  | i + 1 => if bH h i = true then accN h S0 v i ++ strOfNums (enc (v i)) else accN h S0 v i
def accT (h : Int) (S0 : ByteArray) (v : Nat → ByteArray) : Nat → ByteArray
  | 0 => S0
  | i + 1 => if bH h (5 + i) = true then accT h S0 v i ++ (strOfNums (enc (v i).size) ++ v i) else accT h S0 v i
def vN (n N K T : Int) : Nat → Int
  | 0 => n
  | 1 => N
  | 2 => K
  | _ => T
def vT (s t : ByteArray) : Nat → ByteArray
  | 0 => s
  | _ => t
def accF (h : Int) (S0 : ByteArray) (b : Bool) : ByteArray := if bH h 4 = true then S0 ++ flagS b else S0
def putS (k n N K : Int) (s t : ByteArray) (b : Bool) (T : Int) : ByteArray :=
  accT (hasB k) (accF (hasB k) (accN (hasB k) (headS k) (vN n N K T) 4) b) (vT s t) 2
def putA (k n N K : Int) (s t : ByteArray) (b : Bool) (T : Int) : ByteArray := if rightA k n N K s t b T = true then putS k n N K s t b T else ⟨#[]⟩
theorem enc_size (n : Int) : (strOfNums (enc n)).size ≤ 9 := by rw [strOfNums_size, enc_length]; have := sz_bd n; omega
theorem vput_walk (n : Int) (h0 : 0 ≤ n) (h1 : n ≤ 18446744073709551615) (w : World) : Calls Tryd.prog 42 #[.int .u64 n] w fun e w' => e = .returned (.string (strOfNums (enc n))) ∧ Below w.heap.size w w' :=
  varint_Put.calls 10 n _ w (put_enc h0 h1 (Nat.le_refl _))
theorem vtext_walk (s : ByteArray) (hs : s.size ≤ 140737488351232) (w : World) : Calls Tryd.prog 44 #[.string s] w fun e w' => e = .returned (.string (strOfNums (enc s.size) ++ s)) ∧ Below w.heap.size w w' :=
  varint_Text.calls 10 s _ w (text_enc hs (Nat.le_refl _))
theorem flag_walk (b : Bool) (w : World) : Calls Tryd.prog 43 #[.bool b] w fun e w' => e = .returned (.string (flagS b)) ∧ Below w.heap.size w w' :=
  (script_flag.calls b (flagS b) w (by unfold script_flag.f flagS; cases b <;> rfl)).mono fun _ _ h => ⟨h.1, h.2.below⟩
theorem right_walk (k n N K : Int) (s t : ByteArray) (b : Bool) (T : Int) (hs : s.size ≤ 900000) (w : World) :
    Calls Tryd.prog 11 #[.agg #[.int .i64 k, .int .i64 n, .int .i64 N, .int .i64 K, .string s, .string t, .bool b, .int .i64 T]] w fun e w' => e = .returned (.bool (rightA k n N K s t b T)) ∧ Below w.heap.size w w' :=
  script_Right.calls 3 k n N K s t b T _ w (SP.right_f k n N K s t b T hs (Nat.le_refl _))
theorem accN_size (h : Int) (S0 : ByteArray) (v : Nat → Int) : ∀ i, (accN h S0 v i).size ≤ S0.size + 9 * i
  | 0 => Nat.le_refl _
  | i + 1 => by
    have := accN_size h S0 v i
    have := enc_size (v i)
    unfold accN
    split
    · rw [ByteArray.size_append]; omega
    · omega
theorem rightA_all {k n N K : Int} {s t : ByteArray} {b : Bool} {T : Int} (h : rightA k n N K s t b T = true) : (0 ≤ k ∧ k < 11) ∧ bareP (hasB k) n N K s t b T = true ∧ topP k s = true ∧ (0 ≤ n ∧ n ≤ 7) ∧ (0 ≤ N ∧ N ≤ 1099511627776) ∧ (0 ≤ K ∧ K ≤ 1099511627776) ∧ (0 ≤ T ∧ T ≤ 1000) ∧ t.size ≤ 64 := by
  unfold rightA inP at h
  simp only [Bool.and_eq_true, decide_eq_true_eq] at h
  exact h
theorem accN_t {h : Int} {S : ByteArray} {v : Nat → Int} {i : Nat} (hb : bH h i = true) : accN h S v (i + 1) = accN h S v i ++ strOfNums (enc (v i)) := if_pos hb
theorem accN_f {h : Int} {S : ByteArray} {v : Nat → Int} {i : Nat} (hb : bH h i = false) : accN h S v (i + 1) = accN h S v i := if_neg (by rw [hb]; decide)
theorem accT_t {h : Int} {S : ByteArray} {v : Nat → ByteArray} {i : Nat} (hb : bH h (5 + i) = true) : accT h S v (i + 1) = accT h S v i ++ (strOfNums (enc (v i).size) ++ v i) := if_pos hb
theorem accT_f {h : Int} {S : ByteArray} {v : Nat → ByteArray} {i : Nat} (hb : bH h (5 + i) = false) : accT h S v (i + 1) = accT h S v i := if_neg (by rw [hb]; decide)
theorem accF_t {h : Int} {S : ByteArray} {b : Bool} (hb : bH h 4 = true) : accF h S b = S ++ flagS b := if_pos hb
theorem accF_f {h : Int} {S : ByteArray} {b : Bool} (hb : bH h 4 = false) : accF h S b = S := if_neg (by rw [hb]; decide)
theorem flag_size (b : Bool) : (flagS b).size = 1 := by cases b <;> rfl
theorem accF_size (h : Int) (S : ByteArray) (b : Bool) : (accF h S b).size ≤ S.size + 1 := by
  unfold accF
  split
  · rw [ByteArray.size_append, flag_size]; omega
  · omega
theorem accT_size (h : Int) (S0 : ByteArray) (v : Nat → ByteArray) (hv : ∀ i, (v i).size ≤ 900000) : ∀ i, (accT h S0 v i).size ≤ S0.size + 900009 * i
  | 0 => Nat.le_refl _
  | i + 1 => by
    have := accT_size h S0 v hv i
    have := enc_size (v i).size
    have := hv i
    unfold accT
    split
    · rw [ByteArray.size_append, ByteArray.size_append]; omega
    · omega
theorem n4_0 (a b c d : Value) (w : World) : (Instr.index 48 (.agg #[a, b, c, d]) (.int .i64 0)).run Tryd.prog w = .ok a w := by kernel_rfl
theorem n4_1 (a b c d : Value) (w : World) : (Instr.index 48 (.agg #[a, b, c, d]) (.int .i64 1)).run Tryd.prog w = .ok b w := by kernel_rfl
theorem n4_2 (a b c d : Value) (w : World) : (Instr.index 48 (.agg #[a, b, c, d]) (.int .i64 2)).run Tryd.prog w = .ok c w := by kernel_rfl
theorem n4_3 (a b c d : Value) (w : World) : (Instr.index 48 (.agg #[a, b, c, d]) (.int .i64 3)).run Tryd.prog w = .ok d w := by kernel_rfl
theorem s2_0 (a b : Value) (w : World) : (Instr.index 52 (.agg #[a, b]) (.int .i64 0)).run Tryd.prog w = .ok a w := by kernel_rfl
theorem s2_1 (a b : Value) (w : World) : (Instr.index 52 (.agg #[a, b]) (.int .i64 1)).run Tryd.prog w = .ok b w := by kernel_rfl
theorem new_cell (W : World) (v : Value) (t : TypeId) : (W.alloc (.cells #[v] t)).cell? ⟨W.heap.size, 0, none⟩ = some v := by
  simp only [World.cell?, World.alloc_heap_new]
  rfl
theorem byte_str (k : Int) (h0 : 0 ≤ k) (h1 : k < 11) (W : World) (B : Nat) (h : W.cell? ⟨B, 0, none⟩ = some (.int .u8 k)) : Sem.run Tryd.prog (convert 47 9 (.slice (some ⟨B, 0, none⟩) 1 1)) W = .ok (.string (headS k)) W :=
  run_convert_bytes_arg W _ _ Tryd.underlying47 Tryd.underlying5 B 0 1 1 [k % 256] rfl (fun i hi => by
    obtain rfl : i = 0 := by omega
    rw [show [k % 256].getD 0 0 = k from by simp; omega]
    exact h) _ Tryd.underlying9
set_option maxHeartbeats 8000000 in
set_option maxRecDepth 100000 in
theorem put_walk (k n N K : Int) (s t : ByteArray) (b : Bool) (T : Int) (hs : s.size ≤ 900000) (w : World) :
    Calls Tryd.prog 15 #[.agg #[.int .i64 k, .int .i64 n, .int .i64 N, .int .i64 K, .string s, .string t, .bool b, .int .i64 T]] w fun e w' => e = .returned (.string (putA k n N K s t b T)) ∧ Below w.heap.size w w' := by
  have hu := Tryd.underlying23
  have hw := fun w => right_walk k n N K s t b T hs w
  have hh := fun w => has_walk k w
  have hf := fun w => flag_walk b w
  unfold putA putS
  have x0 : AC (w.alloc (.cells #[.int .i64 k, .int .i64 n, .int .i64 N, .int .i64 K, .string s, .string t, .bool b, .int .i64 T] 23)) w.heap.size k n N K s t b T := AC.new w k n N K s t b T
  have y0 : Below w.heap.size w (w.alloc (.cells #[.int .i64 k, .int .i64 n, .int .i64 N, .int .i64 K, .string s, .string t, .bool b, .int .i64 T] 23)) := (Below.refl _ w).alloc (Nat.le_refl _) _
  have g0 := x0.c0
  have g1 := x0.c1
  have g2 := x0.c2
  have g3 := x0.c3
  have g4 := x0.c4
  have g5 := x0.c5
  have g6 := x0.c6
  have g7 := x0.c7
  cases hq : rightA k n N K s t b T with
  | false =>
    rw [hq] at hw
    rw [if_neg (by decide)]
    go_enter Tryd.func15, Tryd.ntmps15
    go_wp2_with (go_at_call 11; (with_reducible refine (hw _).mono ?_); rintro e w1 ⟨rfl, b1⟩
                 have y1 := y0.trans (b1.mono y0.size))
    go_returns
    exact ⟨rfl, y1⟩
  | true =>
    rw [hq] at hw
    rw [if_pos rfl]
    obtain ⟨⟨k0, k1⟩, _, _, ⟨n0, n1⟩, ⟨N0, N1⟩, ⟨K0, K1⟩, ⟨T0, T1⟩, t1⟩ := rightA_all hq
    clear hq
    have hp0 := fun w => vput_walk n (by omega) (by omega) w
    have hp1 := fun w => vput_walk N (by omega) (by omega) w
    have hp2 := fun w => vput_walk K (by omega) (by omega) w
    have hp3 := fun w => vput_walk T (by omega) (by omega) w
    have ht0 := fun w => vtext_walk s (by omega) w
    have ht1 := fun w => vtext_walk t (by omega) w
    have u0 : IntKind.u64.wrap n = n := u64 (by omega)
    have u1 : IntKind.u64.wrap N = N := u64 (by omega)
    have u2 : IntKind.u64.wrap K = K := u64 (by omega)
    have u3 : IntKind.u64.wrap T = T := u64 (by omega)
    generalize hasB k = h at *
    go_enter Tryd.func15, Tryd.ntmps15
    go_wp2_with (go_at_call 11; (with_reducible refine (hw _).mono ?_); rintro e w1 ⟨rfl, b1⟩
                 have y1 := y0.trans (b1.mono y0.size)
                 have x1 := x0.below b1
                 clear g0 g1 g2 g3 g4 g5 g6 g7 b1
                 have g0 := x1.c0)
    rename_i KK hKK
    have rest : ∀ (W : World) (sl : Value), AC W w.heap.size k n N K s t b T → Below w.heap.size w W → KK ⟨#[.agg #[.int .i64 k, .int .i64 n, .int .i64 N, .int .i64 K, .string s, .string t, .bool b, .int .i64 T], .pointer (some ⟨w.heap.size, 0, none⟩), .string ⟨#[]⟩, .int .i64 h, .string (headS k), undef, undef, undef, undef, .agg #[.int .i64 k, .int .i64 n, .int .i64 N, .int .i64 K, .string s, .string t, .bool b, .int .i64 T], .bool true, .bool false, .pointer (some ⟨w.heap.size, 0, none⟩), .int .i64 k, .int .i64 h, .pointer (some ⟨w.heap.size, 0, none⟩), .int .i64 k, .int .u8 k, sl, .string (headS k), undef, undef, undef, undef, undef, undef, undef, undef, undef, undef, undef, undef, undef, undef, undef, undef, undef, undef, undef, undef, undef, undef, undef, undef, undef, undef, undef, undef, undef, undef, undef, undef, undef, undef, undef, undef, undef, undef, undef, undef, undef, undef, undef, undef, undef, undef, undef, undef, undef, undef, undef, undef], []⟩ W := by
      intro W sl xW yW
      refine hKK _ _ ?_
      have z0 := xW.c0
      have z1 := xW.c1
      have z2 := xW.c2
      have z3 := xW.c3
      have z4 := xW.c4
      have z5 := xW.c5
      have z6 := xW.c6
      have z7 := xW.c7
      go_wp2
      go_loopw [4, 29] (fun v4 v29 wr => ∃ i : Nat, i ≤ 4 ∧ v29 = .int .i64 i ∧ v4 = .string (accN h (headS k) (vN n N K T) i) ∧ AC wr w.heap.size k n N K s t b T ∧ Below w.heap.size w wr) (fun _ v29 _ => 4 - (intOf v29).toNat)
      case atStart => exact ⟨0, by omega, rfl, rfl, xW, yW⟩
      case round =>
        obtain ⟨i, hi, rfl, rfl, xr, yr⟩ := hrel
        clear z0 z1 z2 z3 z4 z5 z6 z7
        by_cases h4 : i < 4
        · have hz := accN_size h (headS k) (vN n N K T) i
          have hd : (headS k).size = 1 := by unfold headS; rw [strOfNums_size]; rfl
          have hi' : i = 0 ∨ i = 1 ∨ i = 2 ∨ i = 3 := by omega
          obtain ⟨S, hS⟩ : ∃ S, S = accN h (headS k) (vN n N K T) i := ⟨_, rfl⟩
          rw [← hS] at hz ⊢
          replace hS := Lib.hid hS
          rcases hi' with rfl | rfl | rfl | rfl
          · have hb := enc_size n
            have hix := n4_0
            have hs2 : ¬ 9223372036854775807 < S.size + (strOfNums (enc n)).size := by omega
            go_wp2_with (go_at_call 42; (with_reducible refine (hp0 _).mono ?_); rintro e w3 ⟨rfl, b3⟩; have x3 := xr.below b3; have y3 := yr.trans (b3.mono yr.size))
            · go_roundw
              case rel => exact ⟨1, by omega, rfl, by rw [accN_t (i := 0) (show bH h 0 = true from ‹(Go.bits .and .i64 h 1 != 0) = true›), ← hS.out]; rfl, x3, y3⟩
              case measure => simp [intOf]
            · go_roundw
              case rel => exact ⟨1, by omega, rfl, by rw [accN_f (i := 0) (show bH h 0 = false from ‹(Go.bits .and .i64 h 1 != 0) = false›), ← hS.out], xr, yr⟩
              case measure => simp [intOf]
          · have hb := enc_size N
            have hix := n4_1
            have hs2 : ¬ 9223372036854775807 < S.size + (strOfNums (enc N)).size := by omega
            go_wp2_with (go_at_call 42; (with_reducible refine (hp1 _).mono ?_); rintro e w3 ⟨rfl, b3⟩; have x3 := xr.below b3; have y3 := yr.trans (b3.mono yr.size))
            · go_roundw
              case rel => exact ⟨2, by omega, rfl, by rw [accN_t (i := 1) (show bH h 1 = true from ‹(Go.bits .and .i64 h 2 != 0) = true›), ← hS.out]; rfl, x3, y3⟩
              case measure => simp [intOf]
            · go_roundw
              case rel => exact ⟨2, by omega, rfl, by rw [accN_f (i := 1) (show bH h 1 = false from ‹(Go.bits .and .i64 h 2 != 0) = false›), ← hS.out], xr, yr⟩
              case measure => simp [intOf]
          · have hb := enc_size K
            have hix := n4_2
            have hs2 : ¬ 9223372036854775807 < S.size + (strOfNums (enc K)).size := by omega
            go_wp2_with (go_at_call 42; (with_reducible refine (hp2 _).mono ?_); rintro e w3 ⟨rfl, b3⟩; have x3 := xr.below b3; have y3 := yr.trans (b3.mono yr.size))
            · go_roundw
              case rel => exact ⟨3, by omega, rfl, by rw [accN_t (i := 2) (show bH h 2 = true from ‹(Go.bits .and .i64 h 4 != 0) = true›), ← hS.out]; rfl, x3, y3⟩
              case measure => simp [intOf]
            · go_roundw
              case rel => exact ⟨3, by omega, rfl, by rw [accN_f (i := 2) (show bH h 2 = false from ‹(Go.bits .and .i64 h 4 != 0) = false›), ← hS.out], xr, yr⟩
              case measure => simp [intOf]
          · have hb := enc_size T
            have hix := n4_3
            have hs2 : ¬ 9223372036854775807 < S.size + (strOfNums (enc T)).size := by omega
            go_wp2_with (go_at_call 42; (with_reducible refine (hp3 _).mono ?_); rintro e w3 ⟨rfl, b3⟩; have x3 := xr.below b3; have y3 := yr.trans (b3.mono yr.size))
            · go_roundw
              case rel => exact ⟨4, by omega, rfl, by rw [accN_t (i := 3) (show bH h 3 = true from ‹(Go.bits .and .i64 h 8 != 0) = true›), ← hS.out]; rfl, x3, y3⟩
              case measure => simp [intOf]
            · go_roundw
              case rel => exact ⟨4, by omega, rfl, by rw [accN_f (i := 3) (show bH h 3 = false from ‹(Go.bits .and .i64 h 8 != 0) = false›), ← hS.out], xr, yr⟩
              case measure => simp [intOf]
        · obtain rfl : i = 4 := by omega
          have e4 : ((4 : Nat) : Int) = 4 := rfl
          simp only [e4]
          clear e4
          have hz := accN_size h (headS k) (vN n N K T) 4
          have hd : (headS k).size = 1 := by unfold headS; rw [strOfNums_size]; rfl
          obtain ⟨S4, hS4⟩ : ∃ S, S = accN h (headS k) (vN n N K T) 4 := ⟨_, rfl⟩
          rw [← hS4] at hz ⊢
          have hFz := accF_size h S4 b
          have hfz := flag_size b
          obtain ⟨F, hF⟩ : ∃ S, S = accF h S4 b := ⟨_, rfl⟩
          rw [← hF] at hFz
          replace hS4 := Lib.hid hS4
          replace hF := Lib.hid hF
          have z6 := xr.c6
          by_cases hb4 : (Go.bits .and .i64 h 16 != 0) = true
          · have hs3 : ¬ 9223372036854775807 < S4.size + (flagS b).size := by omega
            go_wp2_with (go_at_call 43; (with_reducible refine (hf _).mono ?_); rintro e w5 ⟨rfl, b5⟩; have x5 := xr.below b5; have y5 := yr.trans (b5.mono yr.size); have t4 := x5.c4; have t5 := x5.c5)
            go_loopw [4, 57] (fun v4 v57 wr => ∃ i : Nat, i ≤ 2 ∧ v57 = .int .i64 i ∧ v4 = .string (accT h F (vT s t) i) ∧ AC wr w.heap.size k n N K s t b T ∧ Below w.heap.size w wr) (fun _ v57 _ => 2 - (intOf v57).toNat)
            case atStart => exact ⟨0, by omega, rfl, by show _ = Value.string F; rw [hF.out, accF_t (show bH h 4 = true from hb4)], x5, y5⟩
            case round =>
              obtain ⟨i, hi, rfl, rfl, xq, yq⟩ := hrel
              clear t4 t5 hb4
              by_cases h2 : i < 2
              · have hz2 := accT_size h F (vT s t) (fun i => by unfold vT; split <;> omega) i
                have hi' : i = 0 ∨ i = 1 := by omega
                obtain ⟨S, hS⟩ : ∃ S, S = accT h F (vT s t) i := ⟨_, rfl⟩
                rw [← hS] at hz2 ⊢
                replace hS := Lib.hid hS
                rcases hi' with rfl | rfl
                · have hb := enc_size s.size
                  have hix := s2_0
                  have hs2 : ¬ 9223372036854775807 < S.size + (strOfNums (enc s.size) ++ s).size := by rw [ByteArray.size_append]; omega
                  obtain ⟨P, hP⟩ : ∃ P, P = strOfNums (enc s.size) ++ s := ⟨_, rfl⟩
                  rw [← hP] at hs2
                  have hq := ht0
                  rw [← hP] at hq
                  replace hP := Lib.hid hP
                  go_wp2_with (go_at_call 44; (with_reducible refine (hq _).mono ?_); rintro e w6 ⟨rfl, b6⟩; have x6 := xq.below b6; have y6 := yq.trans (b6.mono yq.size))
                  · go_roundw
                    case rel => exact ⟨1, by omega, rfl, by rw [accT_t (i := 0) (show bH h (5 + 0) = true from ‹(Go.bits .and .i64 h 32 != 0) = true›), ← hS.out, hP.out]; rfl, x6, y6⟩
                    case measure => simp [intOf]
                  · go_roundw
                    case rel => exact ⟨1, by omega, rfl, by rw [accT_f (i := 0) (show bH h (5 + 0) = false from ‹(Go.bits .and .i64 h 32 != 0) = false›), ← hS.out], xq, yq⟩
                    case measure => simp [intOf]
                · have hb := enc_size t.size
                  have hix := s2_1
                  have hs2 : ¬ 9223372036854775807 < S.size + (strOfNums (enc t.size) ++ t).size := by rw [ByteArray.size_append]; omega
                  obtain ⟨P, hP⟩ : ∃ P, P = strOfNums (enc t.size) ++ t := ⟨_, rfl⟩
                  rw [← hP] at hs2
                  have hq := ht1
                  rw [← hP] at hq
                  replace hP := Lib.hid hP
                  go_wp2_with (go_at_call 44; (with_reducible refine (hq _).mono ?_); rintro e w6 ⟨rfl, b6⟩; have x6 := xq.below b6; have y6 := yq.trans (b6.mono yq.size))
                  · go_roundw
                    case rel => exact ⟨2, by omega, rfl, by rw [accT_t (i := 1) (show bH h (5 + 1) = true from ‹(Go.bits .and .i64 h 64 != 0) = true›), ← hS.out, hP.out]; rfl, x6, y6⟩
                    case measure => simp [intOf]
                  · go_roundw
                    case rel => exact ⟨2, by omega, rfl, by rw [accT_f (i := 1) (show bH h (5 + 1) = false from ‹(Go.bits .and .i64 h 64 != 0) = false›), ← hS.out], xq, yq⟩
                    case measure => simp [intOf]
              · obtain rfl : i = 2 := by omega
                obtain ⟨Z, hZ⟩ : ∃ Z, Z = accT h F (vT s t) 2 := ⟨_, rfl⟩
                rw [← hZ]
                replace hZ := Lib.hid hZ
                go_wp2
                go_returns
                exact ⟨by rw [hZ.out, hF.out, hS4.out]; rfl, yq⟩
          · have hb4 := Bool.eq_false_iff.2 hb4
            have t4 := xr.c4
            have t5 := xr.c5
            go_wp2
            go_loopw [4, 57] (fun v4 v57 wr => ∃ i : Nat, i ≤ 2 ∧ v57 = .int .i64 i ∧ v4 = .string (accT h F (vT s t) i) ∧ AC wr w.heap.size k n N K s t b T ∧ Below w.heap.size w wr) (fun _ v57 _ => 2 - (intOf v57).toNat)
            case atStart => exact ⟨0, by omega, rfl, by show _ = Value.string F; rw [hF.out, accF_f (show bH h 4 = false from hb4)], xr, yr⟩
            case round =>
              obtain ⟨i, hi, rfl, rfl, xq, yq⟩ := hrel
              clear t4 t5 hb4
              by_cases h2 : i < 2
              · have hz2 := accT_size h F (vT s t) (fun i => by unfold vT; split <;> omega) i
                have hi' : i = 0 ∨ i = 1 := by omega
                obtain ⟨S, hS⟩ : ∃ S, S = accT h F (vT s t) i := ⟨_, rfl⟩
                rw [← hS] at hz2 ⊢
                replace hS := Lib.hid hS
                rcases hi' with rfl | rfl
                · have hb := enc_size s.size
                  have hix := s2_0
                  have hs2 : ¬ 9223372036854775807 < S.size + (strOfNums (enc s.size) ++ s).size := by rw [ByteArray.size_append]; omega
                  obtain ⟨P, hP⟩ : ∃ P, P = strOfNums (enc s.size) ++ s := ⟨_, rfl⟩
                  rw [← hP] at hs2
                  have hq := ht0
                  rw [← hP] at hq
                  replace hP := Lib.hid hP
                  go_wp2_with (go_at_call 44; (with_reducible refine (hq _).mono ?_); rintro e w6 ⟨rfl, b6⟩; have x6 := xq.below b6; have y6 := yq.trans (b6.mono yq.size))
                  · go_roundw
                    case rel => exact ⟨1, by omega, rfl, by rw [accT_t (i := 0) (show bH h (5 + 0) = true from ‹(Go.bits .and .i64 h 32 != 0) = true›), ← hS.out, hP.out]; rfl, x6, y6⟩
                    case measure => simp [intOf]
                  · go_roundw
                    case rel => exact ⟨1, by omega, rfl, by rw [accT_f (i := 0) (show bH h (5 + 0) = false from ‹(Go.bits .and .i64 h 32 != 0) = false›), ← hS.out], xq, yq⟩
                    case measure => simp [intOf]
                · have hb := enc_size t.size
                  have hix := s2_1
                  have hs2 : ¬ 9223372036854775807 < S.size + (strOfNums (enc t.size) ++ t).size := by rw [ByteArray.size_append]; omega
                  obtain ⟨P, hP⟩ : ∃ P, P = strOfNums (enc t.size) ++ t := ⟨_, rfl⟩
                  rw [← hP] at hs2
                  have hq := ht1
                  rw [← hP] at hq
                  replace hP := Lib.hid hP
                  go_wp2_with (go_at_call 44; (with_reducible refine (hq _).mono ?_); rintro e w6 ⟨rfl, b6⟩; have x6 := xq.below b6; have y6 := yq.trans (b6.mono yq.size))
                  · go_roundw
                    case rel => exact ⟨2, by omega, rfl, by rw [accT_t (i := 1) (show bH h (5 + 1) = true from ‹(Go.bits .and .i64 h 64 != 0) = true›), ← hS.out, hP.out]; rfl, x6, y6⟩
                    case measure => simp [intOf]
                  · go_roundw
                    case rel => exact ⟨2, by omega, rfl, by rw [accT_f (i := 1) (show bH h (5 + 1) = false from ‹(Go.bits .and .i64 h 64 != 0) = false›), ← hS.out], xq, yq⟩
                    case measure => simp [intOf]
              · obtain rfl : i = 2 := by omega
                obtain ⟨Z, hZ⟩ : ∃ Z, Z = accT h F (vT s t) 2 := ⟨_, rfl⟩
                rw [← hZ]
                replace hZ := Lib.hid hZ
                go_wp2
                go_returns
                exact ⟨by rw [hZ.out, hF.out, hS4.out]; rfl, yq⟩
    have u8k : IntKind.u8.wrap k = k := IntWalk.u8_in k (by omega)
    have hcv : ∀ W : World, Sem.run Tryd.prog (convert 47 9 (.slice (some ⟨W.heap.size, 0, none⟩) 1 1)) (W.alloc (.cells #[.int .u8 k] 5)) = .ok (.string (headS k)) (W.alloc (.cells #[.int .u8 k] 5)) := fun W => byte_str k k0 k1 _ _ (new_cell W _ _)
    have hcvd : ∀ W : World, Sem.run Tryd.prog (convert 47 9 (.slice (some ⟨W.heap.size, 0, none⟩) 1 1)) (W.alloc (.cells #[.int .u8 k] 5)).drew = .ok (.string (headS k)) (W.alloc (.cells #[.int .u8 k] 5)).drew := fun W => byte_str k k0 k1 _ _ (new_cell W _ _)
    have x1d : AC w1.drew w.heap.size k n N K s t b T := x1
    have y1d : Below w.heap.size w w1.drew := y1.drew
    have g0 := x1d.c0
    have g0a : ∀ o, (w1.alloc o).cell? ⟨w.heap.size, 0, none⟩ = some (.int .i64 k) := fun o => (x1.alloc o).c0
    have g0b : ∀ o, (w1.alloc o).drew.cell? ⟨w.heap.size, 0, none⟩ = some (.int .i64 k) := fun o => (x1.alloc o).c0
    have l1 := x1.lt
    go_region_with (first
      | (go_at_call 27; (with_reducible refine (hh _).mono ?_); rintro e w2 ⟨rfl, b2⟩; have x2 := x1d.below b2; have y2 := y1d.trans (b2.mono y1d.size); have d0 := x2.c0)
      | (go_at_call 27; (with_reducible refine (hh _).mono ?_); rintro e w2 ⟨rfl, b2⟩; have x2 := (x1d.alloc _).below b2; have y2 := (y1d.alloc y1d.size _).trans (b2.mono (Nat.le_trans y1d.size (by simp))); have d0 := x2.c0; have hcv2 := byte_str k k0 k1 w2 _ ((b2.cell (by simp)).trans (new_cell _ _ _))))
    all_goals
      simp only [Exit.then]
      go_frame
      first
        | exact rest _ _ x2 y2
        | exact rest _ _ (x2.alloc _) (y2.alloc y2.size _)
end Go.Proofs.YtjjimkmbbifbjaaDoor.SP
