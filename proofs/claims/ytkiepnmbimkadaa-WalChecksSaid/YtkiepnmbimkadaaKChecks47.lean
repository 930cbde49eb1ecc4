import Derived.Test.YtkiepnmbimkadaaKChecks46
namespace Go.Proofs.Ytkiepnmbimkadaa.WL
open Go.RowKit Go.Proofs.Ytkiepnmbimkadaa Go.Proofs.Ytkiepnmbimkadaa.DK Go.Proofs.Ytkiepnmbimkadaa.Pr Go.Proofs.Ytkiepnmbimkadaa.VP Go.Proofs.Ytkiepnmbimkadaa.VF Go.Proofs.Ytkiepnmbimkadaa.CF Go.Proofs.Ytkiepnmbimkadaa.WF Go.Proofs.Ytkiepnmbimkadaa.ML
attribute [local go_sem] max2_int min2_int max_two min_two
theorem one_start {N : Nat} {w0 w1 : World} {v : Value} {l : List OpM} (ho : OpsAt w1 N v l) (hb : Below N w0 w1) (hN : N ≤ w1.heap.size) :
    Trio N w0 (w1.alloc (.cells (cellsOf zero4 zero4 (.slice none 0 0)) 61))
      (InD w1.heap.size (.slice none 0 0)) (fun _ => False) (InV v) (fun w => own.D w w1.heap.size (.slice none 0 0) ⟨zero4, zero4, []⟩) (fun _ => True) (fun w => OpsAt w N v l) := by
  have hlt := fun k e => (ho.row.lt k e).2
  refine ⟨At.new w1, trivial, ho.below (fun k e => Below.heap_alloc _ _ _ (hlt k e)), Kind.foot .., Foot.none, OpsAt.foot .., hb.alloc hN _, by simp; omega, ?_, fun _ g => g.elim, fun _ _ g => g, ?_, fun _ g => g.elim⟩
  · rintro k (rfl | e)
    · exact hN
    · rw [nil_own] at e; cases e
  · rintro k (rfl | e) g
    · have := hlt _ g; omega
    · rw [nil_own] at e; cases e
abbrev One (N : Nat) (w0 w : World) (A : Nat) (W : Value) (L : Nat) (V v : Value) (l : List OpM) (st : St) (s : LSt) : Prop :=
  Trio N w0 w (InF A W L V) (fun _ => False) (InV v) (fun w => PL own LT w A W L V st s) (fun _ => True) (fun w => OpsAt w N v l)
theorem chk_facts {st : St} {s : LSt} {x : ByteArray} (hx : x.size ≤ 60) : chkA x = 0 ∧ chkL s x = ⟨s.round + 1, x, [], 0⟩ ∧ (chkT st s x).n = (st.n.to 0 (rowB (s.round + 1) x)).to 1 ⟨#[]⟩ := by
  have hz := (rowB_size (s.round + 1) x).2
  refine ⟨by unfold chkA; rw [if_neg (by omega)], by unfold chkL; rw [if_neg (by omega)], ?_⟩
  unfold chkT replaceT
  rw [if_neg (by omega), if_pos (rep_yes (i := 0) (s := rowB (s.round + 1) x) (by omega) (by omega)), if_pos (rep_yes (i := 1) (s := ⟨#[]⟩) (by omega) (by decide))]
theorem app_kept (st : St) (s : LSt) (x : ByteArray) : (appT st s x).k = st.k := by
  unfold appT appendT
  split
  · rfl
  · split <;> rfl
theorem tells_checked (F : Four) {r : Int} (h0 : 0 ≤ r) (h1 : r ≤ 1099511000000) (x : ByteArray) (hx : x.size ≤ 60) (u : Nat) : Tells ((F.to 0 (rowB r x)).to 1 ⟨#[]⟩) ⟨r, x, [], u⟩ := by
  have e1 : ((F.to 0 (rowB r x)).to 1 ⟨#[]⟩).at 1 = ⟨#[]⟩ := by rw [at_to, if_pos (by omega)]
  have e0 : ((F.to 0 (rowB r x)).to 1 ⟨#[]⟩).at 0 = rowB r x := by rw [at_to, if_neg (by omega), at_to, if_pos (by omega)]
  exact Tells.whole h0 h1 (by rw [e0]; exact head_row h0 (by omega) x (by omega)) (fun y hy => by simp at hy) e1 (by rw [e1]; decide)
set_option maxHeartbeats 8000000 in
set_option maxRecDepth 100000 in
theorem WalChecks_walk (a0 : Option Addr) (len0 cap0 : Nat) (z0 : Nat → OpM) (a1 : ByteArray) (w : World) (w0 : IsOps w a0 len0 z0) (w1 : a1.size ≤ 140737488351232) :
    Calls Try.prog 5 #[.slice a0 len0 cap0, .string a1] w fun e w' => e = .returned (.bool true) ∧ Below w.heap.size w w' := by
  obtain ⟨j0, hj0, hj00, hj01, hj02⟩ := cut60 a1
  have hz0 : (a1.extract 0 j0.toNat).size ≤ 60 := by rw [ByteArray.size_extract]; omega
  generalize hS0 : a1.extract 0 j0.toNat = S0 at *
  have hcutw := cut_walk a0 len0 cap0 z0 w w0
  clear w0
  go_enter Try.func5, Try.ntmps5
  go_wp2_with (first
    | (go_at_call 8; (with_reducible refine hcutw.mono ?_); rintro e w1 ⟨vo, vn, vc, l, rfl, hops, hb1⟩)
    | (go_at_call 9; (with_reducible refine (new_walk _).mono ?_); rintro e w2 ⟨rfl, rfl⟩
       have h2 := one_start hops hb1 hb1.size
       clear hops hb1)
    | (go_at_call 10; (with_reducible refine (open_zero h2.dsk).mono ?_); rintro e w3 ⟨L, rfl, ho⟩
       obtain ⟨W3, V3, h3⟩ := h2.opened ho
       clear ho h2))
  have HF := Lib.hid (wfixed_walk)
  go_loopw [9] (fun v9 wr => ∃ (i : Nat) (W V : Value) (st : St) (s : LSt), v9 = .int .i64 i ∧ i ≤ l.length ∧ One w.heap.size w wr w1.heap.size W L V (.slice vo vn vc) l st s ∧ Inv i st s) (fun i _ => 40 - (intOf i).toNat)
  case atStart => exact ⟨0, _, _, _, _, rfl, Nat.zero_le _, h3, Inv.zero⟩
  case round =>
    obtain ⟨i, W, V, st, s, rfl, hi, h5, hinv⟩ := hrel
    have hl40 := h5.ops.len
    clear h3 hcutw
    generalize hA : w1.heap.size = A at *
    clear hA
    have hlen := hinv.len
    have hr0 := hinv.r0
    have hr1 := hinv.r1
    by_cases hgo : i < l.length
    · obtain ⟨g, rfl, rfl, hnc, hcm, c0, c1, c2⟩ := h5.ops.loads hgo
      have hsz := h5.ops.small _ (List.getElem_mem hgo)
      obtain ⟨o, ho⟩ : ∃ o, l[i]'hgo = o := ⟨_, rfl⟩
      obtain ⟨kd, x, nn⟩ := o
      rw [ho] at c0 c1 c2 hsz
      simp only at c0 c1 c2 hsz
      unfold maxLen at hcm
      clear ho
      have HI := Lib.hid hinv
      clear hinv
      by_cases hk1 : kd = 1
      · as_aux_lemma =>
          subst hk1
          have hap := lcheck_walk h5.pl HI.out.sound (by omega) hr0 (by omega) x (by omega)
          go_wp2_with (first
            | (go_at_call 15; (with_reducible refine hap.mono ?_); rintro e w7 ⟨rfl, hst⟩
               obtain ⟨W7, V7, h7⟩ := h5.step hst
               clear hst))
          go_roundw
          case rel => exact ⟨i + 1, W7, V7, _, _, by go_num, by omega, h7, HI.out.check (by omega) x (by omega)⟩
          case measure => simp [intOf]; omega
      · as_aux_lemma =>
          have hb1 : (kd == 1) = false := by simpa using hk1
          have hk1 := Lib.hid hk1
          have hap := lappend_walk h5.pl HI.out.sound (by omega) hr0 (by omega) (by omega) x (by omega)
          go_wp2_with (first
            | (go_at_call 12; (with_reducible refine hap.mono ?_); rintro e w7 ⟨rfl, hst⟩
               obtain ⟨W7, V7, h7⟩ := h5.step hst
               clear hst))
          go_roundw
          case rel => exact ⟨i + 1, W7, V7, _, _, by go_num, by omega, h7, HI.out.append x⟩
          case measure => simp [intOf]; omega
    · have hnl := h5.ops.num
      subst hnl
      have HI := Lib.hid (hinv.check (by omega) S0 hz0)
      obtain ⟨ea, el, en⟩ := chk_facts (st := st) (s := s) hz0
      have hap := lcheck_walk h5.pl hinv.sound (by omega) hr0 (by omega) S0 (by omega)
      rw [ea, el] at hap
      rw [el] at HI
      generalize chkT st s S0 = st2 at *
      have hround := round_walk h5.pl.log
      obtain ⟨r, hr⟩ : ∃ r, s.round = r := ⟨_, rfl⟩
      rw [hr] at hap hround HI en hr0 hr1
      have HE := Lib.hid en
      have hr1' : r + 1 ≤ 1000 := by omega
      have hr2 : ¬ r + 1 < 0 := by omega
      clear hr en ea el hinv hlen
      go_wp2_with (first
        | (go_at_call 23; (with_reducible refine hround.mono ?_); rintro e w6 ⟨rfl, rfl⟩)
        | (go_at_call 15; (with_reducible refine hap.mono ?_); rintro e w7 ⟨rfl, hst⟩
           obtain ⟨W7, V7, h7⟩ := h5.step hst
           have hr7 := round_walk h7.pl.log
           have hrec7 := records_walk h7.pl.log (by simp)
           clear hst)
        | (go_at_call 23; (with_reducible refine hr7.mono ?_); rintro e w8 ⟨rfl, rfl⟩)
        | (go_at_call 14; (with_reducible refine hrec7.mono ?_); rintro e w8 ⟨ro, rc, rfl, _, hb8⟩
           have h8 := h7.below hb8
           have hs8 := sure_walk h8.pl.log
           have ht8 := state_walk h8.pl.log
           clear hb8 hr7 hrec7)
        | (go_at_call 19; (with_reducible refine hs8.mono ?_); rintro e w9 ⟨rfl, rfl⟩)
        | (go_at_call 13; (with_reducible refine ht8.mono ?_); rintro e w9 ⟨rfl, rfl⟩
           have hsy := lsync_walk h8.pl (by simp)
           clear hs8 ht8)
        | (go_at_call 16; (with_reducible refine hsy.mono ?_); rintro e w10 ⟨rfl, hst⟩
           obtain ⟨W10, V10, h10⟩ := h8.step hst
           have hla := lappend_walk h10.pl HI.out.synced.sound (by omega) (by show 0 ≤ r + 1; omega) (by show r + 1 ≤ _; omega) (by show 0 ≤ _; omega) ⟨#[108, 111, 115, 116]⟩ (by decide)
           have HI2 := Lib.hid (HI.out.synced.append ⟨#[108, 111, 115, 116]⟩)
           have HK := Lib.hid (app_kept (synced st2) (LSt.synced ⟨r + 1, S0, [], 0⟩) ⟨#[108, 111, 115, 116]⟩)
           generalize appT (synced st2) (LSt.synced ⟨r + 1, S0, [], 0⟩) ⟨#[108, 111, 115, 116]⟩ = st3 at *
           clear hst hsy)
        | (go_at_call 12; (with_reducible refine hla.mono ?_); rintro e w11 ⟨rfl, hst⟩
           obtain ⟨W11, V11, h11⟩ := h10.step hst
           have h12 := h11.toD
           have hcr := crash_walk h12.dsk (HI2.out.sound.fine (by omega)) 0
           have e0 : staysN 0 (unitsOf st3.l) = 0 := by unfold staysN; omega
           rw [e0, stays_zero, HK.out] at hcr
           clear hst hla e0)
        | (go_at_call 17; (with_reducible refine hcr.mono ?_); rintro e w13 ⟨rfl, hD, hk⟩
           have h13 := h12.disk (st2 := synced st2) (W2 := .slice none 0 0) hD hk (.inr fun b e => by rw [nil_own] at e; cases e)
           have hop := open_ok h13.dsk HI.out.synced.sound (by omega) (s := ⟨r + 1, S0, [], 0⟩) (by show Tells st2.n _; rw [HE.out]; exact tells_checked st.n (by omega) (by omega) S0 hz0 0)
           clear hD hk hcr)
        | (go_at_call 10; (with_reducible refine hop.mono ?_); rintro e w14 ⟨M, rfl, ho⟩
           obtain ⟨W14, V14, h14⟩ := h13.opened ho
           have hst14 := state_walk h14.pl.log
           have hrc14 := records_walk h14.pl.log (by simp)
           clear ho hop)
        | (go_at_call 13; (with_reducible refine hst14.mono ?_); rintro e w15 ⟨rfl, rfl⟩)
        | (go_at_call 14; (with_reducible refine hrc14.mono ?_); rintro e w15 ⟨ro2, rc2, rfl, _, hb15⟩
           have h15 := h14.below hb15
           have hrd15 := round_walk h15.pl.log
           clear hb15 hst14 hrc14)
        | (go_at_call 23; (with_reducible refine hrd15.mono ?_); rintro e w16 ⟨rfl, rfl⟩)
        | (go_at_call 20; (with_reducible refine (HF.out _).mono ?_); rintro e w17 ⟨rfl, hb17⟩
           have h17 := h15.below hb17
           clear hb17))
      go_returns
      exact ⟨rfl, h17.bel⟩
end Go.Proofs.Ytkiepnmbimkadaa.WL
namespace Go.Proofs.Ytkiepnmbimkadaa.VF
open Go.RowKit
theorem WalChecks_walk (a0 : Option Addr) (len0 cap0 : Nat) (z0 : Nat → ML.OpM) (a1 : ByteArray) (w : World) (w0 : ML.IsOps w a0 len0 z0) (w1 : a1.size ≤ 140737488351232) :
    Calls Try.prog 5 #[.slice a0 len0 cap0, .string a1] w fun e w' => e = .returned (.bool true) ∧ Below w.heap.size w w' := WL.WalChecks_walk a0 len0 cap0 z0 a1 w w0 w1
end Go.Proofs.Ytkiepnmbimkadaa.VF
