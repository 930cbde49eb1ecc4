/-
  Chapter 08: the walk of the law MailDoes.
-/
import Derived.Test.YtgomnnddfddkhaaMailRef3
import Derived.Test.YtgomnnddfddkhaaWalkMailNews
import Derived.Deep.CutBlock
import Derived.Deep.DeepCutAuto
namespace Go.Proofs.Ytgomnnddfddkhaa.ML
open Go.RowKit Go.Conc Go.Proofs.Ytgomnnddfddkhaa
theorem JS.start {N : Nat} {w0 w : World} {A c n B d k : Nat} (a : MO N w0 w A c n []) (b : MO N w0 w B d k []) (hs : Sep A c B d) :
    JS N w0 ((w.alloc (.cells #[.slice none 0 0, .int .i64 n] 47)).alloc (.cells #[.slice none 0 0, .int .i64 k] 47)) A c n [] B d k [] w.heap.size (.slice none 0 0) [] (w.heap.size + 1) (.slice none 0 0) [] := by
  have hx := rb_new w n
  have hy := rb_new (w.alloc (.cells #[.slice none 0 0, .int .i64 n] 47)) k
  have a2 := (a.alloc (.cells #[.slice none 0 0, .int .i64 n] 47)).alloc (.cells #[.slice none 0 0, .int .i64 k] 47)
  have b2 := (b.alloc (.cells #[.slice none 0 0, .int .i64 n] 47)).alloc (.cells #[.slice none 0 0, .int .i64 k] 47)
  have hb := a.base
  refine ⟨a2.bel, a2.base, a2.at_, b2.at_, hx.below ((Below.refl _ _).alloc (Nat.le_refl _) _), by simpa using hy, hs, by omega, fun b e => by simp [Value.ownBlock] at e, a.lowc, b.lowc, hb, by omega, fun b e => by simp [Value.ownBlock] at e, fun b e => by simp [Value.ownBlock] at e⟩
theorem JS.copied {N : Nat} {w0 w w2 : World} {A c n : Nat} {la : List ByteArray} {B d k : Nat} {lb : List ByteArray} {X : Nat} {v : Value} {lx : List ByteArray} {Y : Nat} {u : Value} {ly : List ByteArray} (h : JS N w0 w A c n la B d k lb X v lx Y u ly)
    {A2 c2 : Nat} (hA : w.heap.size ≤ A2) (hc : w.heap.size ≤ c2) (hm2 : MAt w2 A2 c2 n la) (hm : MAt w2 A c n la) (hK : MKeeps w w2 c) : JS N w0 w2 A2 c2 n la B d k lb X v lx Y u ly ∧ MAt w2 A c n la ∧ Sep A2 c2 A c ∧ Sep A c B d ∧ N ≤ c := by
  have h2 := h.fa hm hK
  exact ⟨⟨h2.bel, h2.base, hm2, h2.b, h2.x, h2.y, (Sep.fresh h.b hA hc).symm, h2.xy, h2.far, Nat.le_trans h.base hc, h2.ld, h2.lX, h2.lY, h2.lv, h2.lu⟩, hm, (Sep.fresh h.a hA hc).symm, h.sep, h.lc⟩
theorem JS.rcopied {N : Nat} {w0 w w2 : World} {A c n : Nat} {la : List ByteArray} {B d k : Nat} {lb : List ByteArray} {X : Nat} {v : Value} {lx : List ByteArray} {Y : Nat} {u : Value} {ly : List ByteArray} (h : JS N w0 w A c n la B d k lb X v lx Y u ly)
    {C : Nat} {U : Value} (hx : RB w2 C U n lx) (hb : Below w.heap.size w w2) (hC : w.heap.size ≤ C) (hU : ∀ b, U.ownBlock = some b → w.heap.size ≤ b) : JS N w0 w2 A c n la B d k lb C U lx Y u ly := by
  have h2 := h.below hb
  have hY := h.y.lt
  exact ⟨h2.bel, h2.base, h2.a, h2.b, hx, h2.y, h2.sep, by omega, fun b e1 e2 => by have := hU b e1; have := h.y.row.lt b e2; omega, h2.lc, h2.ld, Nat.le_trans h.base hC, h2.lY, fun b e => Nat.le_trans h.base (hU b e), h2.lu⟩
end Go.Proofs.Ytgomnnddfddkhaa.ML
namespace Go.Proofs.Ytgomnnddfddkhaa.VF
open Go.RowKit Go.Conc Go.Proofs.Ytgomnnddfddkhaa Go.Proofs.Ytgomnnddfddkhaa.ML
attribute [local go_sem] max2_int min2_int max_two min_two

set_option maxHeartbeats 16000000 in
set_option maxRecDepth 100000 in
theorem MailDoes_walk (a0 : Int) (a1 : Option Addr) (len1 cap1 : Nat) (z1 : Nat → OpM) (w : World) (w1 : IsOps w a1 len1 z1) :
    Calls Try.prog 3 #[.int .i64 a0, .slice a1 len1 cap1] w fun e w' => e = .returned (.bool true) ∧ Below w.heap.size w w' := by
  have hfx := fixed_walk
  obtain ⟨y, hy, hyl⟩ := and_mask a0 (c := 15) (by decide)
  rw [show ((15 : Nat) : Int) = 15 from rfl] at hy
  obtain ⟨n, hn⟩ : ∃ n : Nat, 1 + (y : Int) = n := ⟨1 + y, by omega⟩
  have hnw := fun w => new_walk n (by omega) (by omega) w
  have hn3 : ∀ w : World, Calls Try.prog 9 #[.int .i64 3] w fun e w' => e = .returned (.tuple #[.pointer (some ⟨w.heap.size + 1, 0, none⟩), .int .i64 0]) ∧ MAt w' (w.heap.size + 1) w.heap.size 3 [] ∧ Below w.heap.size w w' := fun w => new_walk 3 (by omega) (by omega) w
  have hrw := fun w => rnew_walk n (by omega) (by omega) w
  have hr3 : ∀ w : World, Calls Try.prog 10 #[.int .i64 3] w fun e w' => e = .returned (.tuple #[.pointer (some ⟨w.heap.size, 0, none⟩), .int .i64 0]) ∧ w' = w.alloc (.cells #[.slice none 0 0, .int .i64 (3 : Nat)] 47) := fun w => rnew_walk 3 (by omega) (by omega) w
  go_enter Try.func3, Try.ntmps3
  go_wp2_with (first
    | (go_at_call 9; (with_reducible refine (hnw _).mono ?_); rintro e w2 ⟨rfl, hm, hb⟩
       have b0 := MO.new (N := w.heap.size) (w0 := w) hm hb (Nat.le_refl _) (Below.refl _ _)
       clear hm hb)
    | (go_at_call 9; (with_reducible refine (hn3 _).mono ?_); rintro e w3 ⟨rfl, hm, hb⟩
       have b3 := MO.new (N := w.heap.size) (w0 := w) hm hb b0.base b0.bel
       have sp := Lib.hid (Sep.fresh (B := w2.heap.size + 1) (d := w2.heap.size) b0.at_ (by omega) (Nat.le_refl _))
       have b0 := b0.below hb
       have j0 := JS.start b0 b3 sp.out
       clear hm hb)
    | (go_at_call 10; (with_reducible refine (hrw _).mono ?_); rintro e w4 ⟨rfl, rfl⟩)
    | (go_at_call 10; (with_reducible refine (hr3 _).mono ?_); rintro e w4 ⟨rfl, rfl⟩))
  clear hnw hn3 hrw hr3 b0 b3
  generalize w2.heap.size + 1 = B at *
  generalize w2.heap.size = d at *
  generalize w3.heap.size + 1 = Y at *
  generalize w3.heap.size = X0 at *
  go_loopw [6, 10, 14] (fun v6 v10 v14 wr => ∃ (i A c : Nat) (l m : List ByteArray) (X : Nat) (v u : Value), v6 = .pointer (some ⟨A, 0, none⟩) ∧ v10 = .pointer (some ⟨X, 0, none⟩) ∧ v14 = .int .i64 i ∧ i ≤ len1 ∧ i ≤ 80 ∧ JS w.heap.size w wr A c n l B d 3 m X v l Y u m) (fun _ _ i _ => 80 - (intOf i).toNat)
  case atStart => exact ⟨0, _, _, [], [], _, _, _, rfl, rfl, rfl, Nat.zero_le _, Nat.zero_le _, j0⟩
  case round =>
    obtain ⟨i, A, c, l, m, X, v, u, rfl, rfl, rfl, hi, hi2, j1⟩ := hrel
    clear j0
    have hle := j1.a.le
    have hme := j1.b.le
    have hn16 : n ≤ 16 := by omega
    by_cases hgo : i < len1 ∧ i < 80
    · obtain ⟨hlt, hlt2⟩ := hgo
      obtain ⟨x, rfl⟩ : ∃ x, a1 = some x := by
        rcases w1 with h | ⟨x, hx, _⟩
        · omega
        · exact ⟨x, hx⟩
      obtain ⟨⟨c0, c1, c2⟩, d1, d2⟩ := IsOps.loads w1 hlt (Nat.le_refl _) j1.bel
      obtain ⟨o, ho⟩ : ∃ o, z1 i = o := ⟨_, rfl⟩
      obtain ⟨kd, s, nn⟩ := o
      rw [ho] at c0 c1 c2 d1 d2
      simp only at c0 c1 c2 d1 d2
      clear ho
      obtain ⟨j, hj, bj0, bj1, bj2⟩ := cut40 s
      obtain ⟨S, hS⟩ : ∃ S, s.extract 0 j.toNat = S := ⟨_, rfl⟩
      have j2 := j1.alloc (.cells #[.int .i64 kd, .string s, .int .i64 nn] 31)
      have hcl := j1.a.ltc
      have hdl := j1.b.ltc
      clear j1
      go_upto_block 2 with fail
      go_cut [6, 10] (fun v6 v10 wx => ∃ (A c : Nat) (l m : List ByteArray) (X : Nat) (v u : Value), v6 = .pointer (some ⟨A, 0, none⟩) ∧ v10 = .pointer (some ⟨X, 0, none⟩) ∧ JS w.heap.size w wx A c n l B d 3 m X v l Y u m)
      case first =>
        by_cases hk0 : kd = 0
        · as_aux_lemma =>
          subst hk0
          go_wp2_with (first
            | (go_at_call 11; (with_reducible refine (put_walk j2.a S).mono ?_); rintro e w4 ⟨rfl, hm, hK⟩
               have j3 := j2.fa hm hK
               clear hm hK)
            | (go_at_call 12; (with_reducible refine (rput_walk j3.x (by omega) S).mono ?_); rintro e w5 ⟨rfl, hq⟩
               obtain ⟨v4, j4⟩ := j3.fx hq
               clear hq)
            | (go_at_call 11; (with_reducible refine (put_walk j4.b S).mono ?_); rintro e w6 ⟨rfl, hm, hK⟩
               have j5 := j4.fb hm hK
               clear hm hK)
            | (go_at_call 12; (with_reducible refine (rput_walk j5.y (by omega) S).mono ?_); rintro e w7 ⟨rfl, hq⟩
               obtain ⟨u6, j6⟩ := j5.fy hq
               clear hq))
          go_meet
          exact ⟨A, c, _, _, X, _, _, rfl, rfl, j6⟩
        by_cases hk1 : kd = 1
        · as_aux_lemma =>
          subst hk1
          have hta := fun (w1 : World) (h1 : MAt w1 A c n l) => take_walk h1
          have htx := fun (w1 : World) (h1 : RB w1 X v n l) => rtake_walk h1
          obtain ⟨l2, hl2⟩ : ∃ l2, l.tail = l2 := ⟨_, rfl⟩
          go_wp2_with (first
            | (go_at_call 13; (with_reducible refine (hta _ j2.a).mono ?_); rintro e w4 ⟨rfl, hm, hK⟩
               rw [hl2] at hm
               have j3 := j2.fa hm hK
               clear hm hK)
            | (go_at_call 14; (with_reducible refine (htx _ j3.x).mono ?_); rintro e w5 ⟨rfl, hq⟩
               rw [hl2] at hq
               obtain ⟨v9, j9⟩ := j3.fx hq
               clear hq))
          go_meet
          exact ⟨A, c, _, _, X, _, _, rfl, rfl, j9⟩
        by_cases hk2 : kd = 2
        · as_aux_lemma =>
          subst hk2
          go_wp2_with (first
            | (go_at_call 15; (with_reducible refine (first_walk j2.a (by omega)).mono ?_); rintro e w4 ⟨rfl, hm, hK⟩
               have j3 := j2.fa hm hK
               clear hm hK)
            | (go_at_call 16; (with_reducible refine (rfirst_walk j3.x).mono ?_); rintro e w5 ⟨rfl, rfl⟩))
          go_meet
          exact ⟨A, c, _, _, X, _, _, rfl, rfl, j3⟩
        by_cases hk3 : kd = 3
        · as_aux_lemma =>
          subst hk3
          go_wp2_with (first
            | (go_at_call 18; (with_reducible refine (all_walk j2.a (by omega)).mono ?_); rintro e w4 ⟨o1, k1, rfl, hrw, hm, hK⟩
               have j3 := j2.fa hm hK
               clear hm hK)
            | (go_at_call 19; (with_reducible refine (rall_walk j3.x).mono ?_); rintro e w5 ⟨o2, k2, rfl, hsr, hx, hK⟩
               have r2 := hrw.kept (row := some X) ⟨hK.os, hK.tape, hK.output, hK.size, fun b hb hc2 => hK.block b hb (fun e => hc2 (by rw [e]))⟩ (.inr (own_obj hrw j3.x.cells (fun cur e => by simp at e)))
               have hsm := same_walk (k1 := k1) (k2 := k2) (SRow.own r2) hsr (by omega)
               obtain ⟨v4, j4⟩ := j3.fx (hK.rp hx)
               clear hrw hsr hx hK r2)
            | (go_at_call 17; (with_reducible refine hsm.mono ?_); rintro e w6 ⟨rfl, hb⟩
               have j5 := j4.below hb
               clear hb hsm))
          go_meet
          exact ⟨A, c, _, _, X, _, _, rfl, rfl, j5⟩
        by_cases hk4 : kd = 4
        · as_aux_lemma =>
          subst hk4
          go_wp2_with (first
            | (go_at_call 20; (with_reducible refine (copy_walk j2.a (by omega)).mono ?_); rintro e w4 ⟨A2, c2, rfl, hm2, hm, hK, hA2, hc2⟩
               obtain ⟨j3, ho, s1, s2, hq⟩ := j2.copied hA2 hc2 hm2 hm hK
               clear hm2 hm hK hA2 hc2)
            | (go_at_call 21; (with_reducible refine (rcopy_walk j3.x (by omega)).mono ?_); rintro e w5 ⟨X2, U, rfl, hx, hb, hX2, hU⟩
               have j4 := j3.rcopied hx hb hX2 hU
               have ho4 := ho.below hb
               clear hx hb hX2 hU)
            | (go_at_call 18; (with_reducible refine (all_walk ho4 (by omega)).mono ?_); rintro e w6 ⟨o1, k1, rfl, hrw, hm, hK⟩
               have j5 := j4.fo ho4 s1 s2 hq hK
               have ho5 := hm
               clear hrw hm hK)
            | (go_at_call 11; (with_reducible refine (put_walk ho5 ⟨#[115, 112, 111, 105, 108, 116]⟩).mono ?_); rintro e w7 ⟨rfl, hm, hK⟩
               have j6 := j5.fo ho5 s1 s2 hq hK
               clear hm hK))
          go_meet
          exact ⟨_, _, _, _, _, _, _, rfl, rfl, j6⟩
        · as_aux_lemma =>
          have e0 : (kd == 0) = false := by simpa using hk0
          have e1 : (kd == 1) = false := by simpa using hk1
          have e2 : (kd == 2) = false := by simpa using hk2
          have e3 : (kd == 3) = false := by simpa using hk3
          have e4 : (kd == 4) = false := by simpa using hk4
          have j3 := j2.alloc (.cells #[.pointer (some ⟨A, 0, none⟩), .pointer (some ⟨B, 0, none⟩)] 23)
          have hlit : ((wr.alloc (.cells #[.int .i64 kd, .string s, .int .i64 nn] 31)).alloc (.cells #[.pointer (some ⟨A, 0, none⟩), .pointer (some ⟨B, 0, none⟩)] 23)).heap[wr.heap.size + 1]? = some (.cells #[.pointer (some ⟨A, 0, none⟩), .pointer (some ⟨B, 0, none⟩)] 23) := by
            have := heap_alloc_new (wr.alloc (.cells #[.int .i64 kd, .string s, .int .i64 nn] 31)) (.cells #[.pointer (some ⟨A, 0, none⟩), .pointer (some ⟨B, 0, none⟩)] 23)
            simpa using this
          have hob : ((wr.alloc (.cells #[.int .i64 kd, .string s, .int .i64 nn] 31)).alloc (.cells #[.pointer (some ⟨A, 0, none⟩), .pointer (some ⟨B, 0, none⟩)] 23)).heap[wr.heap.size]? = some (.cells #[.int .i64 kd, .string s, .int .i64 nn] 31) :=
            (Below.heap_alloc (wr.alloc (.cells #[.int .i64 kd, .string s, .int .i64 nn] 31)) _ wr.heap.size (by simp)).trans (heap_alloc_new wr _)
          have htc := turn_calls (lit2 hlit).1 (lit2 hlit).2 j3.a j3.b j3.sep nn
          have hobl : wr.heap.size < ((wr.alloc (.cells #[.int .i64 kd, .string s, .int .i64 nn] 31)).alloc (.cells #[.pointer (some ⟨A, 0, none⟩), .pointer (some ⟨B, 0, none⟩)] 23)).heap.size := by simp; omega
          go_wp2_with (first
            | (go_at_call 22; (with_reducible refine htc.mono ?_); rintro e w5 ⟨rfl, hm, hm2, hK⟩
               have j4 := j3.two hm hm2 hK
               have hob5 : w5.heap[wr.heap.size]? = some (.cells #[.int .i64 kd, .string s, .int .i64 nn] 31) := (hK.block _ hobl (by omega) (by omega)).trans hob
               have t2 : w5.cell? ⟨wr.heap.size, 2, none⟩ = some (.int .i64 nn) := by simp [World.cell?, hob5]
               have hbl5 : wr.heap.size < w5.heap.size := (Array.getElem?_eq_some_iff.1 hob5).1
               have j5 := j4.alloc (.cells #[.pointer (some ⟨X, 0, none⟩), .pointer (some ⟨Y, 0, none⟩)] 27)
               have htr := rturn_walk (heap_alloc_new w5 _) j5 nn
               clear hm hm2 hK j4 j5 j3 hlit hob htc hob5)
            | (go_at_call 23; (with_reducible refine htr.mono ?_); rintro e w6 ⟨rfl, v6, u6, j6⟩))
          go_meet
          exact ⟨A, c, _, _, X, _, _, rfl, rfl, j6⟩
      case rest => as_aux_lemma =>
        obtain ⟨A2, c2, l2, m2, X2, v9, u9, rfl, rfl, j9⟩ := hcut
        clear j2
        have hl9 := j9.a.le
        have hm9 := j9.b.le
        have hwr : IntKind.i64.wrap ((n : Int) - (l2.length : Int)) = (n : Int) - (l2.length : Int) := IntWalk.i64_in _ (by omega)
        obtain ⟨ox, kx, hvx⟩ := j9.x.row.form
        obtain ⟨oy, ky, hvy⟩ := j9.y.row.form
        have jd := j9.drew
        have x1 : _ = some _ := jd.x.c0
        have x2 : _ = some _ := jd.y.c0
        rw [hvx] at x1
        rw [hvy] at x2
        replace hvx := Lib.hid hvx
        replace hvy := Lib.hid hvy
        go_upto_region 40 with fail
        go_region_held3 (fun W => W.cell? ⟨X2, 0, none⟩ = some (.slice ox l2.length kx) ∧ W.cell? ⟨Y, 0, none⟩ = some (.slice oy m2.length ky)) (first | exact ⟨x1, x2⟩ | exact ⟨y1, y2⟩) (first
          | (go_at_call 24; (with_reducible refine (len_walk jd.a).mono ?_); rintro e w70 ⟨rfl, rfl⟩)
          | (go_at_call 25; (with_reducible refine (room_walk jd.a (by omega)).mono ?_); rintro e w71 ⟨rfl, rfl⟩
             have je := jd.drew
             have y1 := x1
             have y2 := x2)
          | (go_at_call 24; (with_reducible refine (len_walk je.b).mono ?_); rintro e w72 ⟨rfl, rfl⟩))
        go_wp2
        go_roundw
        case rel => exact ⟨i + 1, A2, c2, l2, m2, X2, _, _, rfl, rfl, by go_num, by omega, by omega, je⟩
        case measure => simp [intOf]; omega
    · have hx : i < len1 ∧ ¬ i < 80 ∨ ¬ i < len1 := by
        by_cases h : i < len1
        · exact .inl ⟨h, fun g => hgo ⟨h, g⟩⟩
        · exact .inr h
      clear hgo
      rcases hx with ⟨hlt, hlt2⟩ | hlt
      all_goals
        go_wp2_with (first | (go_at_call 26; (with_reducible refine (hfx _).mono ?_); rintro e w10 ⟨rfl, hq⟩
                              have h10 := j1.below hq
                              clear hq))
        go_returns
        exact ⟨rfl, h10.bel⟩
end Go.Proofs.Ytgomnnddfddkhaa.VF
