/-
  Chapter 08: the law's fixed calls.
-/
import Derived.Test.YtgomnnddfddkhaaMailSame
namespace Go.Proofs.Ytgomnnddfddkhaa.ML
open Go.RowKit Go.Conc Go.Proofs.Ytgomnnddfddkhaa

theorem same_one {w : World} {o1 o2 : Option Addr} {k1 k2 : Nat} {x : ByteArray} (h1 : SRow w o1 [x]) (h2 : SRow w o2 [x]) (_h : 0 < 1) :
    Calls Try.prog 17 #[.slice o1 1 k1, .slice o2 1 k2] w fun e w' => e = .returned (.bool true) ∧ Below w.heap.size w w' := by
  have h := same_walk (k1 := k1) (k2 := k2) h1 h2 (by simp)
  simpa only [List.length_cons, List.length_nil, Nat.zero_add] using h
theorem cell_in {w : World} {B : Nat} {C : Array Value} {t : TypeId} {f : Nat × Nat} (h : w.heap[B]? = some (.cells C t f)) (j : Nat) : w.cell? ⟨B, j, none⟩ = C[j]? := by simp [World.cell?, h]
theorem new_one (w : World) : Calls Try.prog 9 #[.int .i64 1] w fun e w' => e = .returned (.tuple #[.pointer (some ⟨w.heap.size + 1, 0, none⟩), .int .i64 0]) ∧ MAt w' (w.heap.size + 1) w.heap.size 1 [] ∧ Below w.heap.size w w' := new_walk 1 (by omega) (by omega) w
theorem new_two (w : World) : Calls Try.prog 9 #[.int .i64 2] w fun e w' => e = .returned (.tuple #[.pointer (some ⟨w.heap.size + 1, 0, none⟩), .int .i64 0]) ∧ MAt w' (w.heap.size + 1) w.heap.size 2 [] ∧ Below w.heap.size w w' := new_walk 2 (by omega) (by omega) w
set_option maxHeartbeats 8000000 in
set_option maxRecDepth 100000 in
theorem fixed_walk (w : World) : Calls Try.prog 26 #[] w fun e w' => e = .returned (.bool true) ∧ Below w.heap.size w w' := by
  have r1 : putE 1 [] = 0 := rfl
  have r2 : putE 1 [⟨#[97]⟩] = 7 := rfl
  have r3 : putE 2 [] = 0 := rfl
  have r4 : putE 2 [⟨#[120]⟩] = 0 := rfl
  have r5 : hd [⟨#[97]⟩] = ⟨#[97]⟩ := rfl
  have r6 : non [⟨#[97]⟩] = true := rfl
  have r7 : hd [] = ⟨#[]⟩ := rfl
  have r8 : non [] = false := rfl
  have r9 : turnK [⟨#[97]⟩] [⟨#[120]⟩, ⟨#[121]⟩] 1 = 1 := rfl
  have r10 : turnS [⟨#[97]⟩] [⟨#[120]⟩, ⟨#[121]⟩] 1 = ⟨#[120]⟩ := rfl
  have r11 : turnB [⟨#[97]⟩] [⟨#[120]⟩, ⟨#[121]⟩] 1 = true := rfl
  go_enter Try.func26, Try.ntmps26
  go_wp2_with (first
    | (go_at_call 9; (with_reducible refine (new_one w).mono ?_); rintro e w1 ⟨rfl, hm, hb⟩
       have b1 := MO.new (N := w.heap.size) (w0 := w) hm hb (Nat.le_refl _) (Below.refl _ _)
       clear hm hb)
    | (go_at_call 9; (with_reducible refine (new_two w1).mono ?_); rintro e w2 ⟨rfl, hm, hb⟩
       have c2 := MO.new (N := w.heap.size) (w0 := w) hm hb b1.base b1.bel
       have s12 := Lib.hid (Sep.fresh (B := w1.heap.size + 1) (d := w1.heap.size) b1.at_ (by omega) (by omega))
       have b2 := b1.below hb
       clear hm hb)
    | (go_at_call 9; (with_reducible refine (new_no 0 (by omega) _).mono ?_); rintro e w7 ⟨rfl, rfl⟩)
    | (go_at_call 9; (with_reducible refine (new_no 257 (by omega) _).mono ?_); rintro e w7 ⟨rfl, rfl⟩)
    | (go_at_call 11; (with_reducible refine (put_walk b2.at_ ⟨#[97]⟩).mono ?_); rintro e w3 ⟨rfl, hm, hK⟩
       have b3 := MO.eq (m := [⟨#[97]⟩]) (b2.own hm hK) rfl
       have c3 := c2.other b3 hK s12.out
       clear hm hK)
    | (go_at_call 11; (with_reducible refine (put_walk b3.at_ ⟨#[98]⟩).mono ?_); rintro e w4 ⟨rfl, hm, hK⟩
       have b4 := MO.eq (m := [⟨#[97]⟩]) (b3.own hm hK) rfl
       have c4 := c3.other b4 hK s12.out
       clear hm hK)
    | (go_at_call 11; (with_reducible refine (put_walk c4.at_ ⟨#[120]⟩).mono ?_); rintro e w5 ⟨rfl, hm, hK⟩
       have c5 := MO.eq (m := [⟨#[120]⟩]) (c4.own hm hK) rfl
       have b5 := b4.other c5 hK s12.out.symm
       clear hm hK)
    | (go_at_call 11; (with_reducible refine (put_walk c5.at_ ⟨#[121]⟩).mono ?_); rintro e w6 ⟨rfl, hm, hK⟩
       have c6 := MO.eq (m := [⟨#[120]⟩, ⟨#[121]⟩]) (c5.own hm hK) rfl
       have b6 := b5.other c6 hK s12.out.symm
       clear hm hK)
    | (go_at_call 15; (with_reducible refine (first_walk b6.at_ (by decide)).mono ?_); rintro e w8 ⟨rfl, hm, hK⟩
       have b8 := b6.own hm hK
       have c8 := c6.other b8 hK s12.out
       have c8a := c8.alloc (.cells #[.pointer (some ⟨w.heap.size + 1, 0, none⟩), .pointer (some ⟨w1.heap.size + 1, 0, none⟩)] 23)
       have b8a := b8.alloc (.cells #[.pointer (some ⟨w.heap.size + 1, 0, none⟩), .pointer (some ⟨w1.heap.size + 1, 0, none⟩)] 23)
       have hn := heap_alloc_new w8 (.cells #[.pointer (some ⟨w.heap.size + 1, 0, none⟩), .pointer (some ⟨w1.heap.size + 1, 0, none⟩)] 23)
       have k0 : (w8.alloc (.cells #[.pointer (some ⟨w.heap.size + 1, 0, none⟩), .pointer (some ⟨w1.heap.size + 1, 0, none⟩)] 23)).cell? ⟨w8.heap.size, 0, none⟩ = some (.pointer (some ⟨w.heap.size + 1, 0, none⟩)) := cell_in hn 0
       have k1 : (w8.alloc (.cells #[.pointer (some ⟨w.heap.size + 1, 0, none⟩), .pointer (some ⟨w1.heap.size + 1, 0, none⟩)] 23)).cell? ⟨w8.heap.size, 1, none⟩ = some (.pointer (some ⟨w1.heap.size + 1, 0, none⟩)) := cell_in hn 1
       have ht := turn_calls k0 k1 b8a.at_ c8a.at_ s12.out 1
       clear hm hK hn k0 k1)
    | (go_at_call 22; (with_reducible refine ht.mono ?_); rintro e w9 ⟨rfl, hmb, hmc, hK⟩
       have hbl := hK.bel b8a.bel b8a.base b8a.lowc c8a.lowc
       have hbs := Nat.le_trans b8a.base hK.size
       have b9 : MO w.heap.size w w9 _ _ 1 [⟨#[97]⟩] := ⟨hmb, hbl, hbs, b8a.lowA, b8a.lowc⟩
       have c9 : MO w.heap.size w w9 _ _ 2 [⟨#[121]⟩] := ⟨hmc, hbl, hbs, c8a.lowA, c8a.lowc⟩
       clear hmb hmc hK hbl hbs ht b8a c8a)
    | (go_at_call 20; (with_reducible refine (copy_walk c9.at_ (by decide)).mono ?_); rintro e w10 ⟨D, q, rfl, hd1, hm, hK, hD, hq⟩
       have c10 := c9.own hm hK
       have b10 := b9.other c10 hK s12.out.symm
       have d10 : MO w.heap.size w w10 D q 2 [⟨#[121]⟩] := ⟨hd1, c10.bel, c10.base, Nat.le_trans c9.base hD, Nat.le_trans c9.base hq⟩
       have sbd := Lib.hid (Sep.fresh (B := D) (d := q) b9.at_ hD hq)
       have scd := Lib.hid (Sep.fresh (B := D) (d := q) c9.at_ hD hq)
       clear hd1 hm hK hD hq)
    | (go_at_call 13; (with_reducible refine (take_walk b10.at_).mono ?_); rintro e w11 ⟨rfl, hm, hK⟩
       have b11 := MO.eq (m := []) (b10.own hm hK) rfl
       have c11 := c10.other b11 hK s12.out
       have d11 := d10.other b11 hK sbd.out
       clear hm hK)
    | (go_at_call 13; (with_reducible refine (take_walk b11.at_).mono ?_); rintro e w12 ⟨rfl, hm, hK⟩
       have b12 := MO.eq (m := []) (b11.own hm hK) rfl
       have c12 := c11.other b12 hK s12.out
       have d12 := d11.other b12 hK sbd.out
       have hn := heap_alloc_new w12 (.cells #[.pointer (some ⟨w.heap.size + 1, 0, none⟩)] 23)
       have k0 : (w12.alloc (.cells #[.pointer (some ⟨w.heap.size + 1, 0, none⟩)] 23)).cell? ⟨w12.heap.size, 0, none⟩ = some (BoxV.ptr ⟨w.heap.size + 1, w.heap.size, 1, []⟩) := cell_in hn 0
       have hto := turn_one k0 (b12.alloc (.cells #[.pointer (some ⟨w.heap.size + 1, 0, none⟩)] 23)).at_ rfl
       have c12a := c12.alloc (.cells #[.pointer (some ⟨w.heap.size + 1, 0, none⟩)] 23)
       have d12a := d12.alloc (.cells #[.pointer (some ⟨w.heap.size + 1, 0, none⟩)] 23)
       clear hm hK hn k0)
    | (go_at_call 22; (with_reducible refine hto.mono ?_); rintro e w13 ⟨rfl, hb⟩
       have c13 := c12a.below hb
       have d13 := d12a.below hb
       clear hb hto)
    | (go_at_call 24; (with_reducible refine (len_walk c13.at_).mono ?_); rintro e w7 ⟨rfl, rfl⟩)
    | (go_at_call 25; (with_reducible refine (room_walk c13.at_ (by decide)).mono ?_); rintro e w14 ⟨rfl, rfl⟩
       have c14 := c13.drew
       have d14 := d13.drew)
    | (go_at_call 18; (with_reducible refine (all_walk c14.at_ (by decide)).mono ?_); rintro e w15 ⟨o, k, rfl, hrow, hm, hK⟩
       have c15 := c14.own hm hK
       have d15 := d14.other c15 hK scd.out
       have rw15 := SRow.own hrow
       have rwA := rw15.below ((Below.refl _ _).alloc (Nat.le_refl _) (.cells #[.string ⟨#[121]⟩] 9))
       have rwB : SRow (w15.alloc (.cells #[.string ⟨#[121]⟩] 9)) (some ⟨w15.heap.size, 0, none⟩) [⟨#[121]⟩] := SRow.own (k := 1) (N := 0) (World.ownsRow_lit (base := 0) (e := 9) (size := 1) w15 #[.string ⟨#[121]⟩] 1 (Nat.zero_le _) (by decide) rfl)
       have hsm := same_one (k1 := k) (k2 := 1) rwA rwB (by decide)
       have c15a := c15.alloc (.cells #[.string ⟨#[121]⟩] 9)
       have d15a := d15.alloc (.cells #[.string ⟨#[121]⟩] 9)
       clear hrow hm hK rw15 rwA rwB)
    | (go_at_call 17; (with_reducible refine hsm.mono ?_); rintro e w16 ⟨rfl, hb⟩
       have c16 := c15a.below hb
       have d16 := d15a.below hb
       clear hb hsm)
    | (go_at_call 24; (with_reducible refine (len_walk c16.at_).mono ?_); rintro e w7 ⟨rfl, rfl⟩)
    | (go_at_call 18; (with_reducible refine (all_walk d16.at_ (by decide)).mono ?_); rintro e w17 ⟨o2, k2, rfl, hrow, hm, hK⟩
       have d17 := d16.own hm hK
       have rw17 := SRow.own hrow
       have rwA := rw17.below ((Below.refl _ _).alloc (Nat.le_refl _) (.cells #[.string ⟨#[121]⟩] 9))
       have rwB : SRow (w17.alloc (.cells #[.string ⟨#[121]⟩] 9)) (some ⟨w17.heap.size, 0, none⟩) [⟨#[121]⟩] := SRow.own (k := 1) (N := 0) (World.ownsRow_lit (base := 0) (e := 9) (size := 1) w17 #[.string ⟨#[121]⟩] 1 (Nat.zero_le _) (by decide) rfl)
       have hsm2 := same_one (k1 := k2) (k2 := 1) rwA rwB (by decide)
       have d17a := d17.alloc (.cells #[.string ⟨#[121]⟩] 9)
       clear hrow hm hK rw17 rwA rwB)
    | (go_at_call 17; (with_reducible refine hsm2.mono ?_); rintro e w18 ⟨rfl, hb⟩
       have d18 := d17a.below hb
       clear hb hsm2)
    )
  go_returns
  exact ⟨rfl, d18.bel⟩
end Go.Proofs.Ytgomnnddfddkhaa.ML
