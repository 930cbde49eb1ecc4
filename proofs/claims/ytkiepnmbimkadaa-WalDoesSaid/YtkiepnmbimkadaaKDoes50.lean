import Derived.Deep.RegionHeld3
import Derived.Deep.Cut
import Derived.Test.YtkiepnmbimkadaaKDoes48
import Derived.Test.YtkiepnmbimkadaaKDoes49
namespace Go.Proofs.Ytkiepnmbimkadaa.WL
open Go.RowKit Go.Proofs.Ytkiepnmbimkadaa Go.Proofs.Ytkiepnmbimkadaa.DK Go.Proofs.Ytkiepnmbimkadaa.Pr Go.Proofs.Ytkiepnmbimkadaa.VP Go.Proofs.Ytkiepnmbimkadaa.VF Go.Proofs.Ytkiepnmbimkadaa.CF Go.Proofs.Ytkiepnmbimkadaa.WF Go.Proofs.Ytkiepnmbimkadaa.ML
abbrev RT : TypeId := 84
theorem two_start {N : Nat} {w0 w1 : World} {v : Value} {l : List OpM} (ho : OpsAt w1 N v l) (hb : Below N w0 w1) (hN : N ≤ w1.heap.size) :
    Trio N w0 ((w1.alloc (.cells (cellsOf zero4 zero4 (.slice none 0 0)) 61)).alloc (.cells #[.string ⟨#[]⟩, .string ⟨#[]⟩, .string ⟨#[]⟩, .string ⟨#[]⟩, .slice none 0 0] 51))
      (InD w1.heap.size (.slice none 0 0)) (InD (w1.heap.size + 1) (.slice none 0 0)) (InV v) (fun w => own.D w w1.heap.size (.slice none 0 0) ⟨zero4, zero4, []⟩) (fun w => ref.D w (w1.heap.size + 1) (.slice none 0 0) ⟨zero4, zero4, []⟩) (fun w => OpsAt w N v l) := by
  have hlt := fun k e => (ho.row.lt k e).2
  refine ⟨(At.new w1).alloc _, ⟨?_, World.ownsRow_nil _ _ _ _, by simp [Value.ownBlock]⟩, ho.below (fun k e => ?_), Kind.foot .., Kind.foot .., OpsAt.foot .., (hb.alloc hN _).alloc (by simp; omega) _, by simp; omega, ?_, ?_, ?_, ?_, ?_⟩
  · exact heap_alloc2_new w1 _ _
  · have := hlt k e
    exact (Below.heap_alloc _ _ _ (by simp; omega)).trans (Below.heap_alloc _ _ _ this)
  · rintro k (rfl | e)
    · exact hN
    · rw [nil_own] at e; cases e
  · rintro k (rfl | e)
    · omega
    · rw [nil_own] at e; cases e
  · rintro k (rfl | e) (g | g)
    · omega
    · rw [nil_own] at g; cases g
    · rw [nil_own] at e; cases e
    · rw [nil_own] at e; cases e
  · rintro k (rfl | e) g
    · have := hlt _ g; omega
    · rw [nil_own] at e; cases e
  · rintro k (rfl | e) g
    · have := hlt _ g; omega
    · rw [nil_own] at e; cases e
theorem open_zero {w : World} {A : Nat} (h : At w A (.slice none 0 0) zero4 zero4 []) : Calls Try.prog 10 #[.pointer (some ⟨A, 0, none⟩)] w fun e w2 => ∃ L, e = .returned (.tuple #[.pointer (some ⟨L, 0, none⟩), .int .i64 0]) ∧ Opened own LT w w2 A (.slice none 0 0) L ⟨zero4, zero4, []⟩ ⟨0, ⟨#[]⟩, [], 0⟩ := fx_open h
theorem zero_openE : openE ⟨zero4, zero4, []⟩ = 0 := Tells.zero.openE
theorem zero_openT : openT ⟨zero4, zero4, []⟩ = ⟨zero4, zero4, []⟩ := Tells.zero.openT (by decide)
theorem zero_openL : openL ⟨zero4, zero4, []⟩ = ⟨0, ⟨#[]⟩, [], 0⟩ := Tells.zero.openL
theorem ropen_zero {w : World} {B : Nat} (h : RAt w B (.slice none 0 0) zero4 []) : Calls Try.prog 24 #[.pointer (some ⟨B, 0, none⟩)] w fun e w2 => ∃ R, e = .returned (.tuple #[.pointer (some ⟨R, 0, none⟩), .int .i64 0]) ∧ Opened ref RT w w2 B (.slice none 0 0) R ⟨zero4, zero4, []⟩ ⟨0, ⟨#[]⟩, [], 0⟩ := by
  have hw := ropen_good (st := ⟨zero4, zero4, []⟩) h (Sound.zero 0) (by decide) zero_openE
  rw [zero_openT, zero_openL] at hw
  exact hw
abbrev Two (N : Nat) (w0 w : World) (A : Nat) (W : Value) (L : Nat) (V : Value) (B : Nat) (X : Value) (R : Nat) (Y v : Value) (l : List OpM) (st st' : St) (s s' : LSt) : Prop :=
  Trio N w0 w (InF A W L V) (InF B X R Y) (InV v) (fun w => PL own LT w A W L V st s) (fun w => PL ref RT w B X R Y st' s') (fun w => OpsAt w N v l)
theorem Trio.stepQ2 {T : TypeId} {N : Nat} {w0 w w2 : World} {F H : Nat → Prop} {P R' : World → Prop} {B R : Nat} {X Y : Value} {st st2 : St} {s s2 : LSt} (h : Trio N w0 w F (InF B X R Y) H P (fun w => PL ref T w B X R Y st s) R') (hs : Step ref T w w2 B X R Y st2 s2) : ∃ X2 Y2, Trio N w0 w2 F (InF B X2 R Y2) H P (fun w => PL ref T w B X2 R Y2 st2 s2) R' := by
  obtain ⟨X2, Y2, h2⟩ := h.swap.step hs
  exact ⟨X2, Y2, h2.swap⟩
set_option maxHeartbeats 8000000 in
set_option maxRecDepth 100000 in
theorem WalDoes_walk (a0 : Option Addr) (len0 cap0 : Nat) (z0 : Nat → OpM) (w : World) (w0 : IsOps w a0 len0 z0) :
    Calls Try.prog 6 #[.slice a0 len0 cap0] w fun e w' => e = .returned (.bool true) ∧ Below w.heap.size w w' := by
  have hcutw := cut_walk a0 len0 cap0 z0 w w0
  clear w0
  go_enter Try.func6, Try.ntmps6
  go_wp2_with (first
    | (go_at_call 8; (with_reducible refine hcutw.mono ?_); rintro e w1 ⟨vo, vn, vc, l, rfl, hops, hb1⟩)
    | (go_at_call 9; (with_reducible refine (new_walk _).mono ?_); rintro e w2 ⟨rfl, rfl⟩
       have h2 := two_start hops hb1 hb1.size
       clear hops hb1)
    | (go_at_call 10; (with_reducible refine (open_zero h2.dsk).mono ?_); rintro e w3 ⟨L, rfl, ho⟩
       obtain ⟨W3, V3, h3⟩ := h2.opened ho
       clear ho h2)
    | (go_at_call 24; (with_reducible refine (ropen_zero h3.rat).mono ?_); rintro e w4 ⟨R, rfl, ho⟩
       obtain ⟨X4, Y4, h4⟩ := h3.swap.opened ho
       have h4 := h4.swap
       clear ho h3))
  have HF := Lib.hid (wfixed_walk)
  go_loopw [6, 7, 8, 9, 10] (fun v6 v7 v8 v9 v10 wr => ∃ (i L R : Nat) (W V X Y : Value) (st : St) (s : LSt), v6 = .pointer (some ⟨L, 0, none⟩) ∧ v7 = .int .i64 0 ∧ v8 = .pointer (some ⟨R, 0, none⟩) ∧ v9 = .int .i64 0 ∧ v10 = .int .i64 i ∧ i ≤ l.length ∧
    Two w.heap.size w wr w1.heap.size W L V (w1.heap.size + 1) X R Y (.slice vo vn vc) l st st s s ∧ Inv (2 * i) st s) (fun _ _ _ _ i _ => 40 - (intOf i).toNat)
  case atStart => exact ⟨0, L, R, _, _, _, _, _, _, rfl, rfl, rfl, rfl, rfl, Nat.zero_le _, h4, Inv.zero⟩
  case round =>
    obtain ⟨i, L, R, W, V, X, Y, st, s, rfl, rfl, rfl, rfl, rfl, hi, h5, hinv⟩ := hrel
    have hl40 := h5.ops.len
    clear h4 hcutw
    generalize hA : w1.heap.size = A at *
    generalize hB : A + 1 = B at *
    clear hA hB
    have hlen := hinv.len
    have hr0 := hinv.r0
    have hr1 := hinv.r1
    by_cases hgo : i < l.length
    · obtain ⟨g, rfl, rfl, hnc, hcm, c0, c1, c2⟩ := h5.ops.loads hgo
      have hsz := h5.ops.small _ (List.getElem_mem hgo)
      obtain ⟨o, ho⟩ : ∃ o, l[i]'hgo = o := ⟨_, rfl⟩
      obtain ⟨kd, x, nn⟩ := o
      rw [ho] at c0 c1 c2 hsz
      simp only at c0 c1 c2 hsz
      unfold maxLen at hcm
      have hsm := lsame_walk h5.pl h5.ql hinv.sound (by omega) (by omega)
      have HI := Lib.hid hinv
      have HO := Lib.hid ho
      clear hinv ho
      go_upto_region 10 with (first
        | (go_at_call 25; (with_reducible refine hsm.mono ?_); rintro e w6 ⟨rfl, hb6⟩
           have h6 := h5.below hb6
           clear hb6))
      clear hsm h5
      obtain ⟨d0, d1, d2⟩ := h6.ops.three HO
      have hpl := h6.pl
      have hql := h6.ql
      by_cases hk0 : kd = 0
      · as_aux_lemma =>
          subst hk0
          have hap := lappend_walk h6.drew.pl HI.out.sound (by omega) hr0 (by omega) (by omega) x (by omega)
          have hinv2 := Lib.hid (HI.out.append x)
          go_upto_region 19 with fail
          go_region_held3 (fun Z => Z.cell? ⟨g, i * 3 + 1, none⟩ = some (.string x)) (first | exact e2 | exact e1 | exact d1) (first
            | (go_at_call 12; (with_reducible refine hap.mono ?_); rintro e w7 ⟨rfl, hst⟩
               obtain ⟨W7, V7, h7⟩ := h6.drew.step hst
               have e1 := (h7.ops.three HO).2.1
               have hrap := rlappend_walk h7.ql HI.out.sound (by omega) hr0 (by omega) (by omega) x (by omega)
               clear hst)
            | (go_at_call 26; (with_reducible refine hrap.mono ?_); rintro e w8 ⟨rfl, hst⟩
               obtain ⟨X8, Y8, h8⟩ := h7.stepQ2 hst
               have e2 := (h8.ops.three HO).2.1
               clear hst))
          go_wp2
          go_roundw
          case rel => exact ⟨i + 1, L, R, W7, V7, X8, Y8, _, _, rfl, rfl, rfl, rfl, by go_num, by omega, h8, hinv2.out.mono (by omega)⟩
          case measure => simp [intOf]; omega
      by_cases hk1 : kd = 1
      · as_aux_lemma =>
          subst hk1
          have hap := lcheck_walk h6.drew.pl HI.out.sound (by omega) hr0 (by omega) x (by omega)
          have hinv2 := Lib.hid (HI.out.check (by omega) x (by omega))
          go_upto_region 22 with fail
          go_region_held3 (fun Z => Z.cell? ⟨g, i * 3 + 1, none⟩ = some (.string x)) (first | exact e2 | exact e1 | exact d1) (first
            | (go_at_call 15; (with_reducible refine hap.mono ?_); rintro e w7 ⟨rfl, hst⟩
               obtain ⟨W7, V7, h7⟩ := h6.drew.step hst
               have e1 := (h7.ops.three HO).2.1
               have hrap := rlcheck_walk h7.ql HI.out.sound (by omega) hr0 (by omega) x (by omega)
               clear hst)
            | (go_at_call 27; (with_reducible refine hrap.mono ?_); rintro e w8 ⟨rfl, hst⟩
               obtain ⟨X8, Y8, h8⟩ := h7.stepQ2 hst
               have e2 := (h8.ops.three HO).2.1
               clear hst))
          go_wp2
          go_roundw
          case rel => exact ⟨i + 1, L, R, W7, V7, X8, Y8, _, _, rfl, rfl, rfl, rfl, by go_num, by omega, h8, hinv2.out.mono (by omega)⟩
          case measure => simp [intOf]; omega
      by_cases hk2 : kd = 2
      · as_aux_lemma =>
          subst hk2
          have hap := lsync_walk h6.pl (by omega)
          have hinv2 := Lib.hid HI.out.synced
          go_wp2_with (first
            | (go_at_call 16; (with_reducible refine hap.mono ?_); rintro e w7 ⟨rfl, hst⟩
               obtain ⟨W7, V7, h7⟩ := h6.step hst
               have hrap := rlsync_walk h7.ql HI.out.sound (by omega) (by omega)
               clear hst)
            | (go_at_call 28; (with_reducible refine hrap.mono ?_); rintro e w8 ⟨rfl, hst⟩
               obtain ⟨X8, Y8, h8⟩ := h7.stepQ2 hst
               clear hst))
          go_roundw
          case rel => exact ⟨i + 1, L, R, W7, V7, X8, Y8, _, _, rfl, rfl, rfl, rfl, by go_num, by omega, h8, hinv2.out.mono (by omega)⟩
          case measure => simp [intOf]; omega
      have hb0 : (kd == 0) = false := by simpa using hk0
      have hb1 : (kd == 1) = false := by simpa using hk1
      have hb2 : (kd == 2) = false := by simpa using hk2
      have hk0 := Lib.hid hk0
      have hk1 := Lib.hid hk1
      have hk2 := Lib.hid hk2
      have hD6 := h6.toD.swap.toD.swap
      have hI := HI.out.disk
      have hsl := hI.sound.len
      have hnl := Lib.hid hI.sound.now_le
      clear h6 hpl hql
      by_cases hk4 : kd = 4
      · as_aux_lemma =>
          subst hk4
          have hap := append_walk hD6.dsk (by omega) hnl.out 1 x (by omega)
          have hapq := fun w2 hq => append_puts (w2 := w2) (i := 1) (s := x) hD6.dsk hq
          have hI2 := hI.spoil x
          have HI2 := Lib.hid hI2
          have hoE := (hI2.crash nn).openE
          clear hI2
          go_wp2_with (first
            | (go_at_call 29; (with_reducible refine hap.mono ?_); rintro e w7 ⟨rfl, hq⟩
               obtain ⟨W7, hD, hk, hW⟩ := hapq _ hq
               have h7 := hD6.disk (st2 := appendT st 1 x) hD hk hW
               obtain ⟨e0, e1, e2⟩ := h7.ops.three HO
               have hrap := rappend_walk h7.rat hI.sound (by omega) 1 x (by omega)
               clear hq hD hk hW)
            | (go_at_call 30; (with_reducible refine hrap.mono ?_); rintro e w8 ⟨rfl, hq⟩
               obtain ⟨X8, hD, hk, hW⟩ := hq
               have h8 := (h7.swap.disk (K := ref) (st2 := appendT st 1 x) hD hk hW).swap
               obtain ⟨f0, f1, f2⟩ := h8.ops.three HO
               clear hD hk hW)
            | (go_at_call 17; (with_reducible refine (crash_walk h8.dsk (HI2.out.sound.fine (by omega)) nn).mono ?_); rintro e w9 ⟨rfl, hD, hk⟩
               have h9 := h8.disk (st2 := crashT (appendT st 1 x) nn) (W2 := .slice none 0 0) hD hk (.inr fun b e => by rw [nil_own] at e; cases e)
               obtain ⟨q0, q1, q2⟩ := h9.ops.three HO
               have hrc9 := rcrash_walk h9.rat HI2.out.sound (by omega) nn
               clear hD hk)
            | (go_at_call 31; (with_reducible refine hrc9.mono ?_); rintro e w10 ⟨rfl, hD, hk⟩
               have h10 := (h9.swap.disk (K := ref) (st2 := crashT (appendT st 1 x) nn) (W2 := .slice none 0 0) hD hk (.inr fun b e => by rw [nil_own] at e; cases e)).swap
               clear hD hk)
            | (go_at_call 10; (with_reducible refine (open_good h10.dsk (HI2.out.crash nn).sound (by omega) hoE).mono ?_); rintro e w11 ⟨L11, rfl, ho⟩
               obtain ⟨W11, V11, h11⟩ := h10.opened ho
               clear ho)
            | (go_at_call 24; (with_reducible refine (ropen_good h11.rat (HI2.out.crash nn).sound (by omega) hoE).mono ?_); rintro e w12 ⟨R12, rfl, ho⟩
               obtain ⟨X12, Y12, h12⟩ := h11.swap.opened ho
               have h12 := h12.swap
               clear ho))
          go_roundw
          case rel => exact ⟨i + 1, L11, R12, W11, V11, X12, Y12, _, _, rfl, rfl, rfl, rfl, by go_num, by omega, h12, (HI2.out.crash nn).opened.mono (by omega)⟩
          case measure => simp [intOf]; omega
      · as_aux_lemma =>
          have hb4 : (kd == 4) = false := by simpa using hk4
          have HI2 := Lib.hid hI
          have hoE := (hI.crash nn).openE
          have hk4 := Lib.hid hk4
          go_wp2_with (first
            | (go_at_call 17; (with_reducible refine (crash_walk hD6.dsk (HI2.out.sound.fine (by omega)) nn).mono ?_); rintro e w9 ⟨rfl, hD, hk⟩
               have h9 := hD6.disk (st2 := crashT (st) nn) (W2 := .slice none 0 0) hD hk (.inr fun b e => by rw [nil_own] at e; cases e)
               obtain ⟨q0, q1, q2⟩ := h9.ops.three HO
               have hrc9 := rcrash_walk h9.rat HI2.out.sound (by omega) nn
               clear hD hk)
            | (go_at_call 31; (with_reducible refine hrc9.mono ?_); rintro e w10 ⟨rfl, hD, hk⟩
               have h10 := (h9.swap.disk (K := ref) (st2 := crashT (st) nn) (W2 := .slice none 0 0) hD hk (.inr fun b e => by rw [nil_own] at e; cases e)).swap
               clear hD hk)
            | (go_at_call 10; (with_reducible refine (open_good h10.dsk (HI2.out.crash nn).sound (by omega) hoE).mono ?_); rintro e w11 ⟨L11, rfl, ho⟩
               obtain ⟨W11, V11, h11⟩ := h10.opened ho
               clear ho)
            | (go_at_call 24; (with_reducible refine (ropen_good h11.rat (HI2.out.crash nn).sound (by omega) hoE).mono ?_); rintro e w12 ⟨R12, rfl, ho⟩
               obtain ⟨X12, Y12, h12⟩ := h11.swap.opened ho
               have h12 := h12.swap
               clear ho))
          go_roundw
          case rel => exact ⟨i + 1, L11, R12, W11, V11, X12, Y12, _, _, rfl, rfl, rfl, rfl, by go_num, by omega, h12, (HI2.out.crash nn).opened.mono (by omega)⟩
          case measure => simp [intOf]; omega
    · have hnl := h5.ops.num
      subst hnl
      have hsm := lsame_walk h5.pl h5.ql hinv.sound (by omega) (by omega)
      go_wp2_with (first
        | (go_at_call 25; (with_reducible refine hsm.mono ?_); rintro e w6 ⟨rfl, hb6⟩
           have h6 := h5.below hb6
           clear hb6)
        | (go_at_call 20; (with_reducible refine (HF.out _).mono ?_); rintro e w7 ⟨rfl, hb7⟩
           have h7 := h6.below hb7
           clear hb7))
      go_returns
      exact ⟨rfl, h7.bel⟩
end Go.Proofs.Ytkiepnmbimkadaa.WL
namespace Go.Proofs.Ytkiepnmbimkadaa.VF
open Go.RowKit
theorem WalDoes_walk (a0 : Option Addr) (len0 cap0 : Nat) (z0 : Nat → ML.OpM) (w : World) (w0 : ML.IsOps w a0 len0 z0) :
    Calls Try.prog 6 #[.slice a0 len0 cap0] w fun e w' => e = .returned (.bool true) ∧ Below w.heap.size w w' := WL.WalDoes_walk a0 len0 cap0 z0 w w0
end Go.Proofs.Ytkiepnmbimkadaa.VF
