import Derived.Test.YtjjimkmbbifbjaaDoorKCuts20
namespace Go.Proofs.YtjjimkmbbifbjaaDoor.SP
open Go Go.RowKit Go.Shelf Go.Proofs.YtjjimkmbbifbjaaDoor Go.Proofs.YtjjimkmbbifbjaaDoor.SW Go.Proofs.YtjjimkmbbifbjaaDoor.VP Go.Proofs.YtjjimkmbbifbjaaDoor.VF Go.Proofs.YtjjimkmbbifbjaaDoor.TP Go.Proofs.YtjjimkmbbifbjaaDoor.Pv Go.Proofs.YtjjimkmbbifbjaaDoorW.PrintWords
def posN (h : Int) (s : ByteArray) (a : Int) : Nat → Int
 | 0 => a
 | i + 1 => if bH h i = true then (getS s (posN h s a i)).2.1 else posN h s a i
def errN (h : Int) (s : ByteArray) (a : Int) : Nat → Int
 | 0 => 0
 | i + 1 => if errN h s a i = 0 then (if bH h i = true then (getS s (posN h s a i)).2.2 else 0) else errN h s a i
def top1 (n : Int) : Int := if 1099511627777 ≤ n then 1099511627777 else n
def valN (h : Int) (s : ByteArray) (a : Int) (i : Nat) (old : Int) : Int := if bH h i = true then top1 (getS s (posN h s a i)).1 else old
def fvN (h : Int) (s : ByteArray) (a : Int) (i j : Nat) (old : Int) : Int := if j < i then valN h s a j old else old
def outN (p e : Int) : Int := if e = 0 then p else 0
theorem grown_of_below {w w1 : World} (h : Below w.heap.size w w1) (row : Option Nat) : w.grownBy w1 row := ⟨h.os, h.tape, h.output, h.size, fun i hi _ => h.block i hi⟩
theorem gb_drew {w w1 : World} {row : Option Nat} (h : w.grownBy w1 row) : w.grownBy w1.drew row := ⟨h.os, h.tape, h.output, h.size, h.block⟩
theorem vget_walk (s : ByteArray) (hs : s.size ≤ 140737488351232) (a : Int) (w : World) : Calls Tryd.prog 66 #[.string s, .int .i64 a] w fun e w' => e = .returned (.tuple #[.int .u64 (getS s a).1, .int .i64 (getS s a).2.1, .int .i64 (getS s a).2.2]) ∧ Below w.heap.size w w' :=
 varint_Get.calls 12 s a _ _ _ w (get_getS hs a (Nat.le_refl _))
theorem get_bd {s : ByteArray} (a : Int) : 0 ≤ (getS s a).1 := by
 rcases getS_cases s a with h | h
 ·rw [h.2.1]; exact Int.le_refl _
 ·obtain ⟨n, p, _, h, _, _, h0, _⟩ := h
  rw [h]
  exact h0
theorem get_hi {s : ByteArray} (a : Int) : (getS s a).1 ≤ 18446744073709551615 := by
 rcases getS_cases s a with h | h
 ·rw [h.2.1]; decide
 ·obtain ⟨n, p, _, h, _, _, _, h1⟩ := h
  rw [h]
  exact h1
theorem p4_0 (a b c d : Value) (w : World) : (Instr.index 74 (.agg #[a, b, c, d]) (.int .i64 0)).run Tryd.prog w = .ok a w := by kernel_rfl
theorem p4_1 (a b c d : Value) (w : World) : (Instr.index 74 (.agg #[a, b, c, d]) (.int .i64 1)).run Tryd.prog w = .ok b w := by kernel_rfl
theorem p4_2 (a b c d : Value) (w : World) : (Instr.index 74 (.agg #[a, b, c, d]) (.int .i64 2)).run Tryd.prog w = .ok c w := by kernel_rfl
theorem p4_3 (a b c d : Value) (w : World) : (Instr.index 74 (.agg #[a, b, c, d]) (.int .i64 3)).run Tryd.prog w = .ok d w := by kernel_rfl
theorem errN_t {h : Int} {s : ByteArray} {a : Int} {i : Nat} (h0 : errN h s a i = 0) (hb : bH h i = true) : errN h s a (i + 1) = (getS s (posN h s a i)).2.2 := by simp only [errN, if_pos h0, if_pos hb]
theorem errN_f {h : Int} {s : ByteArray} {a : Int} {i : Nat} (h0 : errN h s a i = 0) (hb : bH h i = false) : errN h s a (i + 1) = 0 := by simp only [errN, if_pos h0, hb, Bool.false_eq_true, if_false]
theorem errN_no {h : Int} {s : ByteArray} {a : Int} {i : Nat} (h0 : errN h s a i ≠ 0) : ∀ d, errN h s a (i + d) = errN h s a i
 | 0 => rfl
 | d + 1 => by
  have := errN_no h0 d
  rw [← Nat.add_assoc]
  simp only [errN, this, if_neg h0]
theorem posN_t {h : Int} {s : ByteArray} {a : Int} {i : Nat} (hb : bH h i = true) : posN h s a (i + 1) = (getS s (posN h s a i)).2.1 := if_pos hb
theorem posN_f {h : Int} {s : ByteArray} {a : Int} {i : Nat} (hb : bH h i = false) : posN h s a (i + 1) = posN h s a i := if_neg (by rw [hb]; decide)
theorem valN_t {h : Int} {s : ByteArray} {a : Int} {i : Nat} {old : Int} (hb : bH h i = true) : valN h s a i old = top1 (getS s (posN h s a i)).1 := if_pos hb
theorem valN_f {h : Int} {s : ByteArray} {a : Int} {i : Nat} {old : Int} (hb : bH h i = false) : valN h s a i old = old := if_neg (by rw [hb]; decide)
theorem fv_f {h : Int} {s : ByteArray} {a : Int} {i : Nat} (hb : bH h i = false) (j : Nat) (old : Int) : fvN h s a (i + 1) j old = fvN h s a i j old := by
 unfold fvN
 by_cases e : j = i
 ·subst e; rw [if_pos (by omega), if_neg (by omega), valN_f hb]
 ·by_cases l : j < i
  ·rw [if_pos (by omega), if_pos l]
  ·rw [if_neg (by omega), if_neg l]
theorem fv_t (h : Int) (s : ByteArray) (a : Int) (i : Nat) (old : Int) : fvN h s a (i + 1) i old = valN h s a i old := if_pos (by omega)
theorem fv_o (h : Int) (s : ByteArray) (a : Int) {i j : Nat} (e : j ≠ i) (old : Int) : fvN h s a (i + 1) j old = fvN h s a i j old := by
 unfold fvN
 by_cases l : j < i
 ·rw [if_pos (by omega), if_pos l]
 ·rw [if_neg (by omega), if_neg l]
set_option maxHeartbeats 8000000 in
set_option maxRecDepth 100000 in
theorem numbers_walk {w : World} {G : Nat} {k n N K : Int} {x y : ByteArray} {b : Bool} {T : Int} (hA : AC w G k n N K x y b T) (s : ByteArray) (hs : s.size ≤ 900000) (a : Int) :
  Calls Tryd.prog 51 #[.pointer (some ⟨G, 0, none⟩), .string s, .int .i64 a] w fun e w' => e = .returned (.tuple #[.int .i64 (outN (posN (hasB k) s a 4) (errN (hasB k) s a 4)), .int .i64 (errN (hasB k) s a 4)]) ∧ (errN (hasB k) s a 4 = 0 → AC w' G k (valN (hasB k) s a 0 n) (valN (hasB k) s a 1 N) (valN (hasB k) s a 2 K) x y b (valN (hasB k) s a 3 T)) ∧ w.grownBy w' (some G) := by
 have hu := Tryd.underlying23
 have hh := fun w => has_walk k w
 have hg := fun a w => vget_walk s (by omega) a w
 generalize hasB k = h at *
 go_enter Tryd.func51, Tryd.ntmps51
 go_wp2
 go_region
 go_wp2
 go_loopw [2, 26] (fun v2 v26 wr => ∃ i : Nat, i ≤ 4 ∧ v26 = .int .i64 i ∧ v2 = .int .i64 (posN h s a i) ∧ errN h s a i = 0 ∧ AC wr G k (fvN h s a i 0 n) (fvN h s a i 1 N) (fvN h s a i 2 K) x y b (fvN h s a i 3 T) ∧ w.grownBy wr (some G)) (fun _ v26 _ => 4 - (intOf v26).toNat)
 case atStart => exact ⟨0, by omega, rfl, rfl, rfl, hA, gb_drew (World.grownBy.refl w _)⟩
 case round =>
  obtain ⟨i, hi, rfl, rfl, e0, xr, yr⟩ := hrel
  by_cases h4 : i < 4
  ·have hi' : i = 0 ∨ i = 1 ∨ i = 2 ∨ i = 3 := by omega
   obtain ⟨p, hp⟩ : ∃ p, p = posN h s a i := ⟨_, rfl⟩
   rw [← hp]
   have hgp := hg p
   have b0 := get_bd (s := s) p
   have b1 := get_hi (s := s) p
   obtain ⟨Gp, hGp⟩ : ∃ G, G = getS s p := ⟨_, rfl⟩
   rw [← hGp] at hgp b0 b1
   obtain ⟨gn, gt, ge⟩ := Gp
   simp only at hgp b0 b1
   have xrd : AC wr.drew G k (fvN h s a i 0 n) (fvN h s a i 1 N) (fvN h s a i 2 K) x y b (fvN h s a i 3 T) := xr
   have g0 := xrd.c0
   replace hp := Lib.hid hp
   replace hGp := Lib.hid hGp
   obtain ⟨mv, hm⟩ : ∃ mv : Int, top1 gn = mv := ⟨_, rfl⟩
   have hm2 : 0 ≤ mv ∧ mv ≤ 1099511627777 := by rw [← hm]; unfold top1; split <;> omega
   have hmn : min gn 1099511627777 = mv := by rw [← hm]; unfold top1; split <;> omega
   replace hm := Lib.hid hm
   obtain ⟨hm3, hm4⟩ := hm2
   rcases hi' with rfl | rfl | rfl | rfl
   ·have hix := p4_0
    by_cases he : ge = 0
    ·subst he
     go_wp2_with fail
     go_region_with (go_at_call 27; (with_reducible refine (hh _).mono ?_); rintro e w2 ⟨rfl, b2⟩; have x2 := xrd.below b2; have y2 : w.grownBy w2 (some G) := (gb_drew yr).trans (grown_of_below b2 _))
     go_frame
     go_wp2_with (go_at_call 66; (with_reducible refine (hgp _).mono ?_); rintro e w3 ⟨rfl, b3⟩; have x3 := x2.below b3; have y3 := y2.trans (grown_of_below b3 (some G)); have d3 := x3.c1; have f3 := x3.fr 1)
     ·have hb : bH h 0 = false := by
       have hx := ‹(Go.bits .and .i64 h 1 == 0) = true›
       show (Go.bits .and .i64 h 1 != 0) = false
       simpa using hx
      go_roundw
      case rel => exact ⟨1, by omega, rfl, by rw [posN_f (i := 0) hb, hp.out], errN_f (i := 0) e0 hb, by rw [fv_f (i := 0) hb, fv_f (i := 0) hb, fv_f (i := 0) hb, fv_f (i := 0) hb]; exact x2, y2⟩
      case measure => simp [intOf]
     ·have hb : bH h 0 = true := by
       have hx := ‹(Go.bits .and .i64 h 1 == 0) = false›
       show (Go.bits .and .i64 h 1 != 0) = true
       simpa using hx
      have hv : valN h s a 0 n = mv := by rw [valN_t hb, ← hp.out, ← hGp.out]; exact hm.out
      have hpos : posN h s a (0 + 1) = gt := by rw [posN_t hb, ← hp.out, ← hGp.out]
      have herr : errN h s a (0 + 1) = 0 := by rw [errN_t e0 hb, ← hp.out, ← hGp.out]
      go_roundw
      case rel => exact ⟨1, by omega, rfl, congrArg (Value.int .i64) hpos.symm, herr, by rw [fv_t h s a 0, fv_o h s a (show 1 ≠ 0 by decide), fv_o h s a (show 2 ≠ 0 by decide), fv_o h s a (show 3 ≠ 0 by decide), hv]; exact x3.s1 mv, y3.trans (grownBy_set _ _ _ _)⟩
      case measure => simp [intOf]
    ·have he2 : (ge == 0) = false := by simpa using he
     have he3 : (ge != 0) = true := by simpa using he
     go_wp2_with fail
     go_region_with (go_at_call 27; (with_reducible refine (hh _).mono ?_); rintro e w2 ⟨rfl, b2⟩; have x2 := xrd.below b2; have y2 : w.grownBy w2 (some G) := (gb_drew yr).trans (grown_of_below b2 _))
     go_frame
     go_wp2_with (go_at_call 66; (with_reducible refine (hgp _).mono ?_); rintro e w3 ⟨rfl, b3⟩; have x3 := x2.below b3; have y3 := y2.trans (grown_of_below b3 (some G)))
     ·have hb : bH h 0 = false := by
       have hx := ‹(Go.bits .and .i64 h 1 == 0) = true›
       show (Go.bits .and .i64 h 1 != 0) = false
       simpa using hx
      go_roundw
      case rel => exact ⟨1, by omega, rfl, by rw [posN_f (i := 0) hb, hp.out], errN_f (i := 0) e0 hb, by rw [fv_f (i := 0) hb, fv_f (i := 0) hb, fv_f (i := 0) hb, fv_f (i := 0) hb]; exact x2, y2⟩
      case measure => simp [intOf]
     ·have hb : bH h 0 = true := by
       have hx := ‹(Go.bits .and .i64 h 1 == 0) = false›
       show (Go.bits .and .i64 h 1 != 0) = true
       simpa using hx
      have herr : errN h s a (0 + 1) = ge := by rw [errN_t e0 hb, ← hp.out, ← hGp.out]
      have e4 : errN h s a 4 = ge := (errN_no (i := 0 + 1) (by rw [herr]; exact he) 3).trans herr
      go_returns
      exact ⟨by rw [e4, outN, if_neg he]; rfl, fun h0 => absurd (e4.symm.trans h0) he, y3⟩
   ·have hix := p4_1
    by_cases he : ge = 0
    ·subst he
     go_wp2_with fail
     go_region_with (go_at_call 27; (with_reducible refine (hh _).mono ?_); rintro e w2 ⟨rfl, b2⟩; have x2 := xrd.below b2; have y2 : w.grownBy w2 (some G) := (gb_drew yr).trans (grown_of_below b2 _))
     go_frame
     go_wp2_with (go_at_call 66; (with_reducible refine (hgp _).mono ?_); rintro e w3 ⟨rfl, b3⟩; have x3 := x2.below b3; have y3 := y2.trans (grown_of_below b3 (some G)); have d3 := x3.c2; have f3 := x3.fr 2)
     ·have hb : bH h 1 = false := by
       have hx := ‹(Go.bits .and .i64 h 2 == 0) = true›
       show (Go.bits .and .i64 h 2 != 0) = false
       simpa using hx
      go_roundw
      case rel => exact ⟨2, by omega, rfl, by rw [posN_f (i := 1) hb, hp.out], errN_f (i := 1) e0 hb, by rw [fv_f (i := 1) hb, fv_f (i := 1) hb, fv_f (i := 1) hb, fv_f (i := 1) hb]; exact x2, y2⟩
      case measure => simp [intOf]
     ·have hb : bH h 1 = true := by
       have hx := ‹(Go.bits .and .i64 h 2 == 0) = false›
       show (Go.bits .and .i64 h 2 != 0) = true
       simpa using hx
      have hv : valN h s a 1 N = mv := by rw [valN_t hb, ← hp.out, ← hGp.out]; exact hm.out
      have hpos : posN h s a (1 + 1) = gt := by rw [posN_t hb, ← hp.out, ← hGp.out]
      have herr : errN h s a (1 + 1) = 0 := by rw [errN_t e0 hb, ← hp.out, ← hGp.out]
      go_roundw
      case rel => exact ⟨2, by omega, rfl, congrArg (Value.int .i64) hpos.symm, herr, by rw [fv_t h s a 1, fv_o h s a (show 0 ≠ 1 by decide), fv_o h s a (show 2 ≠ 1 by decide), fv_o h s a (show 3 ≠ 1 by decide), hv]; exact x3.s2 mv, y3.trans (grownBy_set _ _ _ _)⟩
      case measure => simp [intOf]
    ·have he2 : (ge == 0) = false := by simpa using he
     have he3 : (ge != 0) = true := by simpa using he
     go_wp2_with fail
     go_region_with (go_at_call 27; (with_reducible refine (hh _).mono ?_); rintro e w2 ⟨rfl, b2⟩; have x2 := xrd.below b2; have y2 : w.grownBy w2 (some G) := (gb_drew yr).trans (grown_of_below b2 _))
     go_frame
     go_wp2_with (go_at_call 66; (with_reducible refine (hgp _).mono ?_); rintro e w3 ⟨rfl, b3⟩; have x3 := x2.below b3; have y3 := y2.trans (grown_of_below b3 (some G)))
     ·have hb : bH h 1 = false := by
       have hx := ‹(Go.bits .and .i64 h 2 == 0) = true›
       show (Go.bits .and .i64 h 2 != 0) = false
       simpa using hx
      go_roundw
      case rel => exact ⟨2, by omega, rfl, by rw [posN_f (i := 1) hb, hp.out], errN_f (i := 1) e0 hb, by rw [fv_f (i := 1) hb, fv_f (i := 1) hb, fv_f (i := 1) hb, fv_f (i := 1) hb]; exact x2, y2⟩
      case measure => simp [intOf]
     ·have hb : bH h 1 = true := by
       have hx := ‹(Go.bits .and .i64 h 2 == 0) = false›
       show (Go.bits .and .i64 h 2 != 0) = true
       simpa using hx
      have herr : errN h s a (1 + 1) = ge := by rw [errN_t e0 hb, ← hp.out, ← hGp.out]
      have e4 : errN h s a 4 = ge := (errN_no (i := 1 + 1) (by rw [herr]; exact he) 2).trans herr
      go_returns
      exact ⟨by rw [e4, outN, if_neg he]; rfl, fun h0 => absurd (e4.symm.trans h0) he, y3⟩
   ·have hix := p4_2
    by_cases he : ge = 0
    ·subst he
     go_wp2_with fail
     go_region_with (go_at_call 27; (with_reducible refine (hh _).mono ?_); rintro e w2 ⟨rfl, b2⟩; have x2 := xrd.below b2; have y2 : w.grownBy w2 (some G) := (gb_drew yr).trans (grown_of_below b2 _))
     go_frame
     go_wp2_with (go_at_call 66; (with_reducible refine (hgp _).mono ?_); rintro e w3 ⟨rfl, b3⟩; have x3 := x2.below b3; have y3 := y2.trans (grown_of_below b3 (some G)); have d3 := x3.c3; have f3 := x3.fr 3)
     ·have hb : bH h 2 = false := by
       have hx := ‹(Go.bits .and .i64 h 4 == 0) = true›
       show (Go.bits .and .i64 h 4 != 0) = false
       simpa using hx
      go_roundw
      case rel => exact ⟨3, by omega, rfl, by rw [posN_f (i := 2) hb, hp.out], errN_f (i := 2) e0 hb, by rw [fv_f (i := 2) hb, fv_f (i := 2) hb, fv_f (i := 2) hb, fv_f (i := 2) hb]; exact x2, y2⟩
      case measure => simp [intOf]
     ·have hb : bH h 2 = true := by
       have hx := ‹(Go.bits .and .i64 h 4 == 0) = false›
       show (Go.bits .and .i64 h 4 != 0) = true
       simpa using hx
      have hv : valN h s a 2 K = mv := by rw [valN_t hb, ← hp.out, ← hGp.out]; exact hm.out
      have hpos : posN h s a (2 + 1) = gt := by rw [posN_t hb, ← hp.out, ← hGp.out]
      have herr : errN h s a (2 + 1) = 0 := by rw [errN_t e0 hb, ← hp.out, ← hGp.out]
      go_roundw
      case rel => exact ⟨3, by omega, rfl, congrArg (Value.int .i64) hpos.symm, herr, by rw [fv_t h s a 2, fv_o h s a (show 0 ≠ 2 by decide), fv_o h s a (show 1 ≠ 2 by decide), fv_o h s a (show 3 ≠ 2 by decide), hv]; exact x3.s3 mv, y3.trans (grownBy_set _ _ _ _)⟩
      case measure => simp [intOf]
    ·have he2 : (ge == 0) = false := by simpa using he
     have he3 : (ge != 0) = true := by simpa using he
     go_wp2_with fail
     go_region_with (go_at_call 27; (with_reducible refine (hh _).mono ?_); rintro e w2 ⟨rfl, b2⟩; have x2 := xrd.below b2; have y2 : w.grownBy w2 (some G) := (gb_drew yr).trans (grown_of_below b2 _))
     go_frame
     go_wp2_with (go_at_call 66; (with_reducible refine (hgp _).mono ?_); rintro e w3 ⟨rfl, b3⟩; have x3 := x2.below b3; have y3 := y2.trans (grown_of_below b3 (some G)))
     ·have hb : bH h 2 = false := by
       have hx := ‹(Go.bits .and .i64 h 4 == 0) = true›
       show (Go.bits .and .i64 h 4 != 0) = false
       simpa using hx
      go_roundw
      case rel => exact ⟨3, by omega, rfl, by rw [posN_f (i := 2) hb, hp.out], errN_f (i := 2) e0 hb, by rw [fv_f (i := 2) hb, fv_f (i := 2) hb, fv_f (i := 2) hb, fv_f (i := 2) hb]; exact x2, y2⟩
      case measure => simp [intOf]
     ·have hb : bH h 2 = true := by
       have hx := ‹(Go.bits .and .i64 h 4 == 0) = false›
       show (Go.bits .and .i64 h 4 != 0) = true
       simpa using hx
      have herr : errN h s a (2 + 1) = ge := by rw [errN_t e0 hb, ← hp.out, ← hGp.out]
      have e4 : errN h s a 4 = ge := (errN_no (i := 2 + 1) (by rw [herr]; exact he) 1).trans herr
      go_returns
      exact ⟨by rw [e4, outN, if_neg he]; rfl, fun h0 => absurd (e4.symm.trans h0) he, y3⟩
   ·have hix := p4_3
    by_cases he : ge = 0
    ·subst he
     go_wp2_with fail
     go_region_with (go_at_call 27; (with_reducible refine (hh _).mono ?_); rintro e w2 ⟨rfl, b2⟩; have x2 := xrd.below b2; have y2 : w.grownBy w2 (some G) := (gb_drew yr).trans (grown_of_below b2 _))
     go_frame
     go_wp2_with (go_at_call 66; (with_reducible refine (hgp _).mono ?_); rintro e w3 ⟨rfl, b3⟩; have x3 := x2.below b3; have y3 := y2.trans (grown_of_below b3 (some G)); have d3 := x3.c7; have f3 := x3.fr 7)
     ·have hb : bH h 3 = false := by
       have hx := ‹(Go.bits .and .i64 h 8 == 0) = true›
       show (Go.bits .and .i64 h 8 != 0) = false
       simpa using hx
      go_roundw
      case rel => exact ⟨4, by omega, rfl, by rw [posN_f (i := 3) hb, hp.out], errN_f (i := 3) e0 hb, by rw [fv_f (i := 3) hb, fv_f (i := 3) hb, fv_f (i := 3) hb, fv_f (i := 3) hb]; exact x2, y2⟩
      case measure => simp [intOf]
     ·have hb : bH h 3 = true := by
       have hx := ‹(Go.bits .and .i64 h 8 == 0) = false›
       show (Go.bits .and .i64 h 8 != 0) = true
       simpa using hx
      have hv : valN h s a 3 T = mv := by rw [valN_t hb, ← hp.out, ← hGp.out]; exact hm.out
      have hpos : posN h s a (3 + 1) = gt := by rw [posN_t hb, ← hp.out, ← hGp.out]
      have herr : errN h s a (3 + 1) = 0 := by rw [errN_t e0 hb, ← hp.out, ← hGp.out]
      go_roundw
      case rel => exact ⟨4, by omega, rfl, congrArg (Value.int .i64) hpos.symm, herr, by rw [fv_t h s a 3, fv_o h s a (show 0 ≠ 3 by decide), fv_o h s a (show 1 ≠ 3 by decide), fv_o h s a (show 2 ≠ 3 by decide), hv]; exact x3.s7 mv, y3.trans (grownBy_set _ _ _ _)⟩
      case measure => simp [intOf]
    ·have he2 : (ge == 0) = false := by simpa using he
     have he3 : (ge != 0) = true := by simpa using he
     go_wp2_with fail
     go_region_with (go_at_call 27; (with_reducible refine (hh _).mono ?_); rintro e w2 ⟨rfl, b2⟩; have x2 := xrd.below b2; have y2 : w.grownBy w2 (some G) := (gb_drew yr).trans (grown_of_below b2 _))
     go_frame
     go_wp2_with (go_at_call 66; (with_reducible refine (hgp _).mono ?_); rintro e w3 ⟨rfl, b3⟩; have x3 := x2.below b3; have y3 := y2.trans (grown_of_below b3 (some G)))
     ·have hb : bH h 3 = false := by
       have hx := ‹(Go.bits .and .i64 h 8 == 0) = true›
       show (Go.bits .and .i64 h 8 != 0) = false
       simpa using hx
      go_roundw
      case rel => exact ⟨4, by omega, rfl, by rw [posN_f (i := 3) hb, hp.out], errN_f (i := 3) e0 hb, by rw [fv_f (i := 3) hb, fv_f (i := 3) hb, fv_f (i := 3) hb, fv_f (i := 3) hb]; exact x2, y2⟩
      case measure => simp [intOf]
     ·have hb : bH h 3 = true := by
       have hx := ‹(Go.bits .and .i64 h 8 == 0) = false›
       show (Go.bits .and .i64 h 8 != 0) = true
       simpa using hx
      have herr : errN h s a (3 + 1) = ge := by rw [errN_t e0 hb, ← hp.out, ← hGp.out]
      have e4 : errN h s a 4 = ge := (errN_no (i := 3 + 1) (by rw [herr]; exact he) 0).trans herr
      go_returns
      exact ⟨by rw [e4, outN, if_neg he]; rfl, fun h0 => absurd (e4.symm.trans h0) he, y3⟩
  ·obtain rfl : i = 4 := by omega
   go_wp2
   go_returns
   exact ⟨by rw [e0, outN, if_pos rfl]; rfl, fun _ => xr, yr⟩
end Go.Proofs.YtjjimkmbbifbjaaDoor.SP
