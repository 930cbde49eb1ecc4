import Derived.Test.YtjjimkmbbifbjaaDoorKCuts21
import Derived.Test.YtjjimkmbbifbjaaDoorKCuts12
namespace Go.Proofs.YtjjimkmbbifbjaaDoor.SP
open Go Go.RowKit Go.Shelf Go.Proofs.YtjjimkmbbifbjaaDoor Go.Proofs.YtjjimkmbbifbjaaDoor.SW Go.Proofs.YtjjimkmbbifbjaaDoor.VP Go.Proofs.YtjjimkmbbifbjaaDoor.VF Go.Proofs.YtjjimkmbbifbjaaDoor.TP Go.Proofs.YtjjimkmbbifbjaaDoor.Pv Go.Proofs.YtjjimkmbbifbjaaDoorW.PrintWords
def posF (h a : Int) : Int := if bH h 4 = true then a + 1 else a
def errF (h : Int) (s : ByteArray) (a : Int) : Int := if bH h 4 = true then (if (s.size : Int) ≤ a then 3 else if 1 < bt s a then 4 else 0) else 0
def valF (h : Int) (s : ByteArray) (a : Int) (old : Bool) : Bool := if bH h 4 = true then bt s a == 1 else old
def posT (h : Int) (s : ByteArray) (a : Int) : Nat → Int
 | 0 => a
 | i + 1 => if bH h (5 + i) = true then (cutS s (posT h s a i)).2.1 else posT h s a i
def errT (h : Int) (s : ByteArray) (a : Int) : Nat → Int
 | 0 => 0
 | i + 1 => if errT h s a i = 0 then (if bH h (5 + i) = true then (cutS s (posT h s a i)).2.2 else 0) else errT h s a i
def valT (h : Int) (s : ByteArray) (a : Int) (i : Nat) (old : ByteArray) : ByteArray := if bH h (5 + i) = true then (cutS s (posT h s a i)).1 else old
def fvT (h : Int) (s : ByteArray) (a : Int) (i j : Nat) (old : ByteArray) : ByteArray := if j < i then valT h s a j old else old
theorem vcut_walk (s : ByteArray) (hs : s.size ≤ 140737488351232) (a : Int) (w : World) : Calls Tryd.prog 67 #[.string s, .int .i64 a] w fun e w' => e = .returned (.tuple #[.string (cutS s a).1, .int .i64 (cutS s a).2.1, .int .i64 (cutS s a).2.2]) ∧ Below w.heap.size w w' :=
 varint_Cut.calls 12 s a _ _ _ w (cut_cutS hs a (Nat.le_refl _))
theorem q2_0 (a b : Value) (w : World) : (Instr.index 76 (.agg #[a, b]) (.int .i64 0)).run Tryd.prog w = .ok a w := by kernel_rfl
theorem q2_1 (a b : Value) (w : World) : (Instr.index 76 (.agg #[a, b]) (.int .i64 1)).run Tryd.prog w = .ok b w := by kernel_rfl
theorem errT_t {h : Int} {s : ByteArray} {a : Int} {i : Nat} (h0 : errT h s a i = 0) (hb : bH h (5 + i) = true) : errT h s a (i + 1) = (cutS s (posT h s a i)).2.2 := by simp only [errT, if_pos h0, if_pos hb]
theorem errT_f {h : Int} {s : ByteArray} {a : Int} {i : Nat} (h0 : errT h s a i = 0) (hb : bH h (5 + i) = false) : errT h s a (i + 1) = 0 := by simp only [errT, if_pos h0, hb, Bool.false_eq_true, if_false]
theorem errT_no {h : Int} {s : ByteArray} {a : Int} {i : Nat} (h0 : errT h s a i ≠ 0) : ∀ d, errT h s a (i + d) = errT h s a i
 | 0 => rfl
 | d + 1 => by
  have := errT_no h0 d
  rw [← Nat.add_assoc]
  simp only [errT, this, if_neg h0]
theorem posT_t {h : Int} {s : ByteArray} {a : Int} {i : Nat} (hb : bH h (5 + i) = true) : posT h s a (i + 1) = (cutS s (posT h s a i)).2.1 := if_pos hb
theorem posT_f {h : Int} {s : ByteArray} {a : Int} {i : Nat} (hb : bH h (5 + i) = false) : posT h s a (i + 1) = posT h s a i := if_neg (by rw [hb]; decide)
theorem valT_t {h : Int} {s : ByteArray} {a : Int} {i : Nat} {old : ByteArray} (hb : bH h (5 + i) = true) : valT h s a i old = (cutS s (posT h s a i)).1 := if_pos hb
theorem valT_f {h : Int} {s : ByteArray} {a : Int} {i : Nat} {old : ByteArray} (hb : bH h (5 + i) = false) : valT h s a i old = old := if_neg (by rw [hb]; decide)
theorem ft_f {h : Int} {s : ByteArray} {a : Int} {i : Nat} (hb : bH h (5 + i) = false) (j : Nat) (old : ByteArray) : fvT h s a (i + 1) j old = fvT h s a i j old := by
 unfold fvT
 by_cases e : j = i
 ·subst e; rw [if_pos (by omega), if_neg (by omega), valT_f hb]
 ·by_cases l : j < i
  ·rw [if_pos (by omega), if_pos l]
  ·rw [if_neg (by omega), if_neg l]
theorem ft_t (h : Int) (s : ByteArray) (a : Int) (i : Nat) (old : ByteArray) : fvT h s a (i + 1) i old = valT h s a i old := if_pos (by omega)
theorem ft_o (h : Int) (s : ByteArray) (a : Int) {i j : Nat} (e : j ≠ i) (old : ByteArray) : fvT h s a (i + 1) j old = fvT h s a i j old := by
 unfold fvT
 by_cases l : j < i
 ·rw [if_pos (by omega), if_pos l]
 ·rw [if_neg (by omega), if_neg l]
set_option maxHeartbeats 8000000 in
set_option maxRecDepth 100000 in
theorem texts_walk {w : World} {G : Nat} {k n N K : Int} {x y : ByteArray} {b : Bool} {T : Int} (hA : AC w G k n N K x y b T) (s : ByteArray) (hs : s.size ≤ 900000) (a : Int) :
  Calls Tryd.prog 53 #[.pointer (some ⟨G, 0, none⟩), .string s, .int .i64 a] w fun e w' => e = .returned (.tuple #[.int .i64 (outN (posT (hasB k) s a 2) (errT (hasB k) s a 2)), .int .i64 (errT (hasB k) s a 2)]) ∧ (errT (hasB k) s a 2 = 0 → AC w' G k n N K (valT (hasB k) s a 0 x) (valT (hasB k) s a 1 y) b T) ∧ w.grownBy w' (some G) := by
 have hu := Tryd.underlying23
 have hh := fun w => has_walk k w
 have hg := fun a w => vcut_walk s (by omega) a w
 generalize hasB k = h at *
 go_enter Tryd.func53, Tryd.ntmps53
 go_wp2
 go_region
 go_wp2
 go_loopw [2, 20] (fun v2 v20 wr => ∃ i : Nat, i ≤ 2 ∧ v20 = .int .i64 i ∧ v2 = .int .i64 (posT h s a i) ∧ errT h s a i = 0 ∧ AC wr G k n N K (fvT h s a i 0 x) (fvT h s a i 1 y) b T ∧ w.grownBy wr (some G)) (fun _ v20 _ => 2 - (intOf v20).toNat)
 case atStart => exact ⟨0, by omega, rfl, rfl, rfl, hA, gb_drew (World.grownBy.refl w _)⟩
 case round =>
  obtain ⟨i, hi, rfl, rfl, e0, xr, yr⟩ := hrel
  by_cases h4 : i < 2
  ·have hi' : i = 0 ∨ i = 1 := by omega
   obtain ⟨p, hp⟩ : ∃ p, p = posT h s a i := ⟨_, rfl⟩
   rw [← hp]
   have hgp := hg p
   obtain ⟨Gp, hGp⟩ : ∃ G, G = cutS s p := ⟨_, rfl⟩
   rw [← hGp] at hgp
   obtain ⟨gn, gt, ge⟩ := Gp
   simp only at hgp
   have xrd : AC wr.drew G k n N K (fvT h s a i 0 x) (fvT h s a i 1 y) b T := xr
   have g0 := xrd.c0
   replace hp := Lib.hid hp
   replace hGp := Lib.hid hGp
   rcases hi' with rfl | rfl
   ·have hix := q2_0
    by_cases he : ge = 0
    ·subst he
     go_wp2_with fail
     go_region_with (go_at_call 27; (with_reducible refine (hh _).mono ?_); rintro e w2 ⟨rfl, b2⟩; have x2 := xrd.below b2; have y2 : w.grownBy w2 (some G) := (gb_drew yr).trans (grown_of_below b2 _))
     go_frame
     go_wp2_with (go_at_call 67; (with_reducible refine (hgp _).mono ?_); rintro e w3 ⟨rfl, b3⟩; have x3 := x2.below b3; have y3 := y2.trans (grown_of_below b3 (some G)); have d3 := x3.c4; have f3 := x3.fr 4)
     ·have hb : bH h (5 + 0) = false := by
       have hx := ‹(Go.bits .and .i64 h 32 == 0) = true›
       show (Go.bits .and .i64 h 32 != 0) = false
       simpa using hx
      go_roundw
      case rel => exact ⟨1, by omega, rfl, by rw [posT_f (i := 0) hb, hp.out], errT_f (i := 0) e0 hb, by rw [ft_f (i := 0) hb, ft_f (i := 0) hb]; exact x2, y2⟩
      case measure => simp [intOf]
     ·have hb : bH h (5 + 0) = true := by
       have hx := ‹(Go.bits .and .i64 h 32 == 0) = false›
       show (Go.bits .and .i64 h 32 != 0) = true
       simpa using hx
      have hv : valT h s a 0 x = gn := by rw [valT_t hb, ← hp.out, ← hGp.out]
      have hpos : posT h s a (0 + 1) = gt := by rw [posT_t hb, ← hp.out, ← hGp.out]
      have herr : errT h s a (0 + 1) = 0 := by rw [errT_t e0 hb, ← hp.out, ← hGp.out]
      go_roundw
      case rel => exact ⟨1, by omega, rfl, congrArg (Value.int .i64) hpos.symm, herr, by rw [ft_t h s a 0, ft_o h s a (show 1 ≠ 0 by decide), hv]; exact x3.s4 gn, y3.trans (grownBy_set _ _ _ _)⟩
      case measure => simp [intOf]
    ·have he2 : (ge == 0) = false := by simpa using he
     have he3 : (ge != 0) = true := by simpa using he
     go_wp2_with fail
     go_region_with (go_at_call 27; (with_reducible refine (hh _).mono ?_); rintro e w2 ⟨rfl, b2⟩; have x2 := xrd.below b2; have y2 : w.grownBy w2 (some G) := (gb_drew yr).trans (grown_of_below b2 _))
     go_frame
     go_wp2_with (go_at_call 67; (with_reducible refine (hgp _).mono ?_); rintro e w3 ⟨rfl, b3⟩; have x3 := x2.below b3; have y3 := y2.trans (grown_of_below b3 (some G)))
     ·have hb : bH h (5 + 0) = false := by
       have hx := ‹(Go.bits .and .i64 h 32 == 0) = true›
       show (Go.bits .and .i64 h 32 != 0) = false
       simpa using hx
      go_roundw
      case rel => exact ⟨1, by omega, rfl, by rw [posT_f (i := 0) hb, hp.out], errT_f (i := 0) e0 hb, by rw [ft_f (i := 0) hb, ft_f (i := 0) hb]; exact x2, y2⟩
      case measure => simp [intOf]
     ·have hb : bH h (5 + 0) = true := by
       have hx := ‹(Go.bits .and .i64 h 32 == 0) = false›
       show (Go.bits .and .i64 h 32 != 0) = true
       simpa using hx
      have herr : errT h s a (0 + 1) = ge := by rw [errT_t e0 hb, ← hp.out, ← hGp.out]
      have e4 : errT h s a 2 = ge := (errT_no (i := 0 + 1) (by rw [herr]; exact he) 1).trans herr
      go_returns
      exact ⟨by rw [e4, outN, if_neg he]; rfl, fun h0 => absurd (e4.symm.trans h0) he, y3⟩
   ·have hix := q2_1
    by_cases he : ge = 0
    ·subst he
     go_wp2_with fail
     go_region_with (go_at_call 27; (with_reducible refine (hh _).mono ?_); rintro e w2 ⟨rfl, b2⟩; have x2 := xrd.below b2; have y2 : w.grownBy w2 (some G) := (gb_drew yr).trans (grown_of_below b2 _))
     go_frame
     go_wp2_with (go_at_call 67; (with_reducible refine (hgp _).mono ?_); rintro e w3 ⟨rfl, b3⟩; have x3 := x2.below b3; have y3 := y2.trans (grown_of_below b3 (some G)); have d3 := x3.c5; have f3 := x3.fr 5)
     ·have hb : bH h (5 + 1) = false := by
       have hx := ‹(Go.bits .and .i64 h 64 == 0) = true›
       show (Go.bits .and .i64 h 64 != 0) = false
       simpa using hx
      go_roundw
      case rel => exact ⟨2, by omega, rfl, by rw [posT_f (i := 1) hb, hp.out], errT_f (i := 1) e0 hb, by rw [ft_f (i := 1) hb, ft_f (i := 1) hb]; exact x2, y2⟩
      case measure => simp [intOf]
     ·have hb : bH h (5 + 1) = true := by
       have hx := ‹(Go.bits .and .i64 h 64 == 0) = false›
       show (Go.bits .and .i64 h 64 != 0) = true
       simpa using hx
      have hv : valT h s a 1 y = gn := by rw [valT_t hb, ← hp.out, ← hGp.out]
      have hpos : posT h s a (1 + 1) = gt := by rw [posT_t hb, ← hp.out, ← hGp.out]
      have herr : errT h s a (1 + 1) = 0 := by rw [errT_t e0 hb, ← hp.out, ← hGp.out]
      go_roundw
      case rel => exact ⟨2, by omega, rfl, congrArg (Value.int .i64) hpos.symm, herr, by rw [ft_t h s a 1, ft_o h s a (show 0 ≠ 1 by decide), hv]; exact x3.s5 gn, y3.trans (grownBy_set _ _ _ _)⟩
      case measure => simp [intOf]
    ·have he2 : (ge == 0) = false := by simpa using he
     have he3 : (ge != 0) = true := by simpa using he
     go_wp2_with fail
     go_region_with (go_at_call 27; (with_reducible refine (hh _).mono ?_); rintro e w2 ⟨rfl, b2⟩; have x2 := xrd.below b2; have y2 : w.grownBy w2 (some G) := (gb_drew yr).trans (grown_of_below b2 _))
     go_frame
     go_wp2_with (go_at_call 67; (with_reducible refine (hgp _).mono ?_); rintro e w3 ⟨rfl, b3⟩; have x3 := x2.below b3; have y3 := y2.trans (grown_of_below b3 (some G)))
     ·have hb : bH h (5 + 1) = false := by
       have hx := ‹(Go.bits .and .i64 h 64 == 0) = true›
       show (Go.bits .and .i64 h 64 != 0) = false
       simpa using hx
      go_roundw
      case rel => exact ⟨2, by omega, rfl, by rw [posT_f (i := 1) hb, hp.out], errT_f (i := 1) e0 hb, by rw [ft_f (i := 1) hb, ft_f (i := 1) hb]; exact x2, y2⟩
      case measure => simp [intOf]
     ·have hb : bH h (5 + 1) = true := by
       have hx := ‹(Go.bits .and .i64 h 64 == 0) = false›
       show (Go.bits .and .i64 h 64 != 0) = true
       simpa using hx
      have herr : errT h s a (1 + 1) = ge := by rw [errT_t e0 hb, ← hp.out, ← hGp.out]
      have e4 : errT h s a 2 = ge := (errT_no (i := 1 + 1) (by rw [herr]; exact he) 0).trans herr
      go_returns
      exact ⟨by rw [e4, outN, if_neg he]; rfl, fun h0 => absurd (e4.symm.trans h0) he, y3⟩
  ·obtain rfl : i = 2 := by omega
   go_wp2
   go_returns
   exact ⟨by rw [e0, outN, if_pos rfl]; rfl, fun _ => xr, yr⟩
theorem bt_bd (s : ByteArray) (i : Int) : 0 ≤ bt s i ∧ bt s i ≤ 255 := by
 unfold bt
 split
 ·have := (s[i.toNat]'‹_›).toNat_lt
  omega
 ·omega
theorem str_at (s : ByteArray) (a : Int) (h0 : 0 ≤ a) (h1 : a < s.size) (W : World) : Sem.run Tryd.prog (Instr.index 9 (.string s) (.int .i64 a)) W = .ok (.int .u8 (bt s a)) W := by
 have h := run_index_string (P := Tryd.prog) (w := W) 9 s .i64 a Tryd.underlying9
 have hl : a.toNat < s.size := by omega
 unfold bt
 rw [h, dif_pos ⟨h0, h1⟩, dif_pos hl]
set_option maxHeartbeats 8000000 in
set_option maxRecDepth 100000 in
theorem truth_walk {w : World} {G : Nat} {k n N K : Int} {x y : ByteArray} {b : Bool} {T : Int} (hA : AC w G k n N K x y b T) (s : ByteArray) (hs : s.size ≤ 900000) (a : Int) (ha : 0 ≤ a ∧ a ≤ 1000000) :
  Calls Tryd.prog 52 #[.pointer (some ⟨G, 0, none⟩), .string s, .int .i64 a] w fun e w' => e = .returned (.tuple #[.int .i64 (outN (posF (hasB k) a) (errF (hasB k) s a)), .int .i64 (errF (hasB k) s a)]) ∧ (errF (hasB k) s a = 0 → AC w' G k n N K x y (valF (hasB k) s a b) T) ∧ w.grownBy w' (some G) := by
 have hu := Tryd.underlying23
 have hh := fun w => has_walk k w
 have c0 := hA.c0
 unfold posF errF valF
 generalize hasB k = h at *
 cases hb : bH h 4 with
 | false =>
  have hx : (Go.bits .and .i64 h 16 == 0) = true := by
   have hx : (Go.bits .and .i64 h 16 != 0) = false := hb
   simpa using hx
  simp only [Bool.false_eq_true, if_false]
  go_enter Tryd.func52, Tryd.ntmps52
  go_wp2_with (go_at_call 27; (with_reducible refine (hh _).mono ?_); rintro e w2 ⟨rfl, b2⟩; have x2 := hA.below b2; have y2 := grown_of_below b2 (some G))
  go_returns
  exact ⟨rfl, fun _ => x2, y2⟩
 | true =>
  have hx : (Go.bits .and .i64 h 16 == 0) = false := by
   have hx : (Go.bits .and .i64 h 16 != 0) = true := hb
   simpa using hx
  simp only [if_true]
  by_cases hl : (s.size : Int) ≤ a
  ·rw [if_pos hl]
   go_enter Tryd.func52, Tryd.ntmps52
   go_wp2_with (go_at_call 27; (with_reducible refine (hh _).mono ?_); rintro e w2 ⟨rfl, b2⟩; have x2 := hA.below b2; have y2 := grown_of_below b2 (some G))
   go_returns
   exact ⟨rfl, fun h0 => absurd h0 (by decide), y2⟩
  ·rw [if_neg hl]
   have hbd := bt_bd s a
   have hix := str_at s a ha.1 (by omega)
   generalize bt s a = c at *
   by_cases hc : 1 < c
   ·rw [if_pos hc]
    go_enter Tryd.func52, Tryd.ntmps52
    go_wp2_with (go_at_call 27; (with_reducible refine (hh _).mono ?_); rintro e w2 ⟨rfl, b2⟩; have x2 := hA.below b2; have y2 := grown_of_below b2 (some G))
    go_returns
    exact ⟨rfl, fun h0 => absurd h0 (by decide), y2⟩
   ·rw [if_neg hc]
    go_enter Tryd.func52, Tryd.ntmps52
    go_wp2_with (go_at_call 27; (with_reducible refine (hh _).mono ?_); rintro e w2 ⟨rfl, b2⟩; have x2 := hA.below b2; have y2 := grown_of_below b2 (some G); have d6 := x2.c6; have f6 := x2.fr 6)
    go_returns
    exact ⟨rfl, fun _ => x2.s6 _, y2.trans (grownBy_set _ _ _ _)⟩
end Go.Proofs.YtjjimkmbbifbjaaDoor.SP
