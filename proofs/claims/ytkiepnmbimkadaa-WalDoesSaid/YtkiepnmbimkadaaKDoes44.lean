import Derived.Test.YtkiepnmbimkadaaKDoes41
namespace Go.Proofs.Ytkiepnmbimkadaa.WL
open Go.RowKit Go.Proofs.Ytkiepnmbimkadaa Go.Proofs.Ytkiepnmbimkadaa.DK Go.Proofs.Ytkiepnmbimkadaa.Pr Go.Proofs.Ytkiepnmbimkadaa.VP Go.Proofs.Ytkiepnmbimkadaa.VF Go.Proofs.Ytkiepnmbimkadaa.CF Go.Proofs.Ytkiepnmbimkadaa.WF
theorem Mid.rputs {T : TypeId} {w w1 w2 : World} {A : Nat} {W : Value} {L : Nat} {V W1 V1 : Value} {st st2 : St} {s : LSt} (h : Mid ref T w w1 A W L V W1 V1 st s) (hq : RPuts w1 w2 A W1 st2.k st2.l) : ∃ W2, Mid ref T w w2 A W L V W2 V1 st2 s := by
  obtain ⟨W2, hD, hk, hW⟩ := hq
  exact ⟨W2, h.to (Mid.disk (st2 := st2) h.1 hD hk hW)⟩
theorem PL.grown {K : Kind} {T : TypeId} {w w5 : World} {A : Nat} {W : Value} {L : Nat} {V v : Value} {st : St} {s : LSt} {x : ByteArray} (h : PL K T w A W L V st s) (hg : (w.alloc (.cells #[.string x] 9)).grownBy w5 V.ownBlock) (hown : w5.ownsRow 0 9 1 v (s.l.length + 1) (s.l.map Value.string ++ [.string x]))
    (hat : v.ownBlock = V.ownBlock ∨ v.ownBlock = some (w.alloc (.cells #[.string x] 9)).heap.size) : Mid K T w (w5.setCell ⟨L, 3, none⟩ v) A W L V W v st ⟨s.round, s.state, s.l ++ [x], s.sure⟩ := by
  have hA := K.lt h.disk
  have hL := h.log.lt
  have hW := K.row h.disk
  have hVl := fun k e => (h.log.row.lt k e).2
  have hvL : v.ownBlock ≠ some L := fun e => by
    rcases hat with g | g
    · rw [g] at e; exact h.log.apart e
    · rw [g] at e; simp at e; omega
  have hblk : ∀ k, k < w.heap.size → V.ownBlock ≠ some k → w5.heap[k]? = w.heap[k]? := fun k hk hn =>
    (hg.block k (by simp; omega) (fun e => hn e.symm)).trans (Below.heap_alloc _ _ _ hk)
  have hset : ∀ k, k < w.heap.size → V.ownBlock ≠ some k → k ≠ L → (w5.setCell ⟨L, 3, none⟩ v).heap[k]? = w.heap[k]? := fun k hk hn hkL => (Below.heap_setCell _ _ _ _ hkL).trans (hblk k hk hn)
  have hfr : v.ownBlock = V.ownBlock ∨ ∀ b, v.ownBlock = some b → w.heap.size ≤ b := hat.imp id fun g b e => by
    rw [g] at e; simp at e; omega
  refine ⟨⟨K.moved h.disk (hset A hA h.off.b (fun e => h.off.a e.symm)) (fun k e => hset k (hW k e) (fun g => h.off.d k g e) (fun g => h.off.c (by rw [e, g]))), ⟨(set_self ((hblk L hL h.log.apart).trans h.log.cells)).trans (by simp [lcells]), ?_, hvL⟩,
    ⟨h.off.a, (fun e => by
      rcases hfr with g | g
      · rw [g] at e; exact h.off.b e
      · have := g _ e; omega), h.off.c, fun b e1 e2 => by
      rcases hfr with g | g
      · rw [g] at e1; exact h.off.d b e1 e2
      · have := g _ e1; have := hW _ e2; omega⟩⟩, ⟨hg.os, hg.tape, hg.output, by rw [set_size]; have := hg.size; simp at this; omega, fun k hk hn => hset k hk (fun g => hn (.inr (.inr (.inr g)))) (fun g => hn (.inr (.inr (.inl g))))⟩, fun k g => ?_⟩
  · rw [List.length_append, List.map_append]
    exact row_moved hown (fun k e => Below.heap_setCell _ _ _ _ (fun g => hvL (by rw [e]; exact congrArg some g)))
  · rcases g with g | g | g | g
    · exact .inl (.inl g)
    · exact .inl (.inr (.inl g))
    · exact .inl (.inr (.inr (.inl g)))
    · rcases hfr with e | e
      · rw [e] at g; exact .inl (.inr (.inr (.inr g)))
      · exact .inr (e k g)
set_option maxHeartbeats 2000000 in
theorem rlsync_walk {w : World} {A : Nat} {W : Value} {L : Nat} {V : Value} {st : St} {s : LSt} (h : PL ref 84 w A W L V st s) {b : Nat} (hs : Sound b st) (hb : b ≤ 1000) (hl : s.l.length ≤ 1000000) : Calls Try.prog 28 #[.pointer (some ⟨L, 0, none⟩)] w fun e w2 =>
    e = .returned (.tuple #[]) ∧ Step ref 84 w w2 A W L V (synced st) s.synced := by
  have c0 : w.cell? ⟨L, 0, none⟩ = some (.pointer (some ⟨A, 0, none⟩)) := h.log.cell 0
  have hsy := rsync_walk (show RAt w A W st.k st.l from h.disk) hs hb
  obtain ⟨vo, vc, rfl⟩ := own_form h.log.row
  clear hs
  go_enter Try.func28, Try.ntmps28
  go_wp2_with (first | (go_at_call 51; (with_reducible refine hsy.mono ?_); rintro e w2 ⟨rfl, hq, hk⟩
                        have hm := Mid.disk (K := ref) (st2 := synced st) (W2 := .slice none 0 0) h hq hk (.inr fun b e => by rw [nil_own] at e; cases e)
                        have d3 : w2.cell? ⟨L, 3, none⟩ = some (.slice vo s.l.length vc) := hm.1.log.cell 3
                        have d4 : w2.cell? ⟨L, 4, none⟩ = some (.int .i64 s.sure) := hm.1.log.cell 4
                        have f4 : w2.frozen? ⟨L, 4, none⟩ = false := hm.1.log.frozen 4
                        clear hq hk))
  go_returns
  exact ⟨rfl, (hm.to (hm.1.stored (s2 := s.synced) (V2 := .slice vo s.l.length vc) ((KeepsF.refl _ _).setCell (F := fun k => k = L) (.inl rfl) _ _) ((set_self hm.1.log.cells).trans (by simp [lcells, LSt.synced])) (hm.1.log.row.kept (row := some L) ⟨rfl, rfl, rfl, by simp [World.setCell], fun j _ hj => Below.heap_setCell _ _ _ _ (fun e => hj (by rw [e]))⟩ (.inr hm.1.log.apart)) (.inl rfl))).step⟩
set_option maxHeartbeats 2000000 in
theorem rlappend_walk {w : World} {A : Nat} {W : Value} {L : Nat} {V : Value} {st : St} {s : LSt} (h : PL ref 84 w A W L V st s) {b : Nat} (hs : Sound b st) (hb : b ≤ 1000) (hr0 : 0 ≤ s.round) (hr1 : s.round ≤ 2199023255552) (hl : s.l.length ≤ 100000) (x : ByteArray) (hx : x.size ≤ 1000000) :
    Calls Try.prog 26 #[.pointer (some ⟨L, 0, none⟩), .string x] w fun e w2 => e = .returned (.int .i64 (appA st s x)) ∧ Step ref 84 w w2 A W L V (appT st s x) (appL st s x) := by
  have c0 : w.cell? ⟨L, 0, none⟩ = some (.pointer (some ⟨A, 0, none⟩)) := h.log.cell 0
  have c1 : w.cell? ⟨L, 1, none⟩ = some (.int .i64 s.round) := h.log.cell 1
  have hlen := hs.len
  by_cases hbig : x.size > 1024
  · have e1 : appA st s x = 2 := by unfold appA; rw [if_pos hbig]
    have e2 : appT st s x = st := by unfold appT; rw [if_pos hbig]
    have e3 : appL st s x = s := by unfold appL; rw [if_pos hbig]
    rw [e1, e2, e3]
    have hbig2 : (1024 : Int) < x.size := by omega
    have hfin := Step.same h (Below.refl _ _)
    clear h c0 c1 e1 e2 e3
    go_enter Try.func26, Try.ntmps26
    go_wp2
    go_returns
    exact ⟨rfl, hfin⟩
  · have e1 : appA st s x = appendS st.n 1 (rowB s.round x) := by unfold appA; rw [if_neg hbig]
    have e2 : appT st s x = appendT st 1 (rowB s.round x) := by unfold appT; rw [if_neg hbig]
    have e3 : appL st s x = if appendS st.n 1 (rowB s.round x) = 0 then ⟨s.round, s.state, s.l ++ [x], s.sure⟩ else s := by unfold appL; rw [if_neg hbig]
    rw [e1, e2, e3]
    have hrow := fun w => rivuletref10_Row.calls (x.size + 50) s.round x (rowB s.round x) w (rrow_f hr0 (by omega) (by omega) (by omega))
    have hrs := (rowB_size s.round x).2
    have hsm : ¬ (1024 : Int) < x.size := by omega
    obtain ⟨i0, hi54, hz54⟩ := Option.map_eq_some_iff.1 infoS
    simp only [Prod.mk.injEq] at hz54
    obtain ⟨hz0, hz1, hz2⟩ := hz54
    have hap := fun w2 (hb2 : Below w.drew.heap.size w.drew w2) => rappend_walk (show RAt w2 A W st.k st.l from (h.drew.below hb2).disk) hs hb 1 (rowB s.round x) (by omega)
    have hmd := (Mid.refl h).drew
    obtain ⟨vo, vc, rfl⟩ := own_form h.log.row
    generalize hR : rowB s.round x = R at *
    clear e1 e2 e3 hR hs
    by_cases h0 : appendS st.n 1 R = 0
    · rw [h0, if_pos rfl]
      simp only [h0] at hap
      have h0 := Lib.hid h0
      obtain ⟨round, state, l, sure⟩ := s
      simp only [] at *
      go_enter Try.func26, Try.ntmps26
      go_wp2
      have k0 := c0
      have k1 := c1
      go_region_held3 (fun W => W.cell? ⟨L, 0, none⟩ = some (.pointer (some ⟨A, 0, none⟩)) ∧ W.cell? ⟨L, 1, none⟩ = some (.int .i64 round)) (first | exact ⟨e0, e1⟩ | exact ⟨k0, k1⟩) (first
        | (go_at_call 50; (with_reducible refine (hrow _).mono ?_); rintro e w1 ⟨rfl, hbel⟩
           have hm1 := hmd.below hbel
           have k0 : w1.cell? ⟨L, 0, none⟩ = some (.pointer (some ⟨A, 0, none⟩)) := hm1.1.log.cell 0
           have k1 : w1.cell? ⟨L, 1, none⟩ = some (.int .i64 round) := hm1.1.log.cell 1)
        | (go_at_call 30; (with_reducible refine (hap _ hbel).mono ?_); rintro e w2 ⟨rfl, hq⟩
           obtain ⟨W2, hm⟩ := hm1.rputs (st2 := appendT st 1 R) hq
           have e0 : w2.cell? ⟨L, 0, none⟩ = some (.pointer (some ⟨A, 0, none⟩)) := hm.1.log.cell 0
           have e1 : w2.cell? ⟨L, 1, none⟩ = some (.int .i64 round) := hm.1.log.cell 1
           have d3 : w2.cell? ⟨L, 3, none⟩ = some (.slice vo l.length vc) := hm.1.log.cell 3
           have f3 : w2.frozen? ⟨L, 3, none⟩ = false := hm.1.log.frozen 3
           have hlt := hm.1.log.lt
           clear hq))
      go_wp2_with (first
        | (at_builtin; refine wpList_append_own_at _ rfl (.tmp 26) (.tmp 28) 30 rfl 0 9 i0 (.string ⟨#[]⟩) 1 16 underSS hi54 hz0 hz1 hz2 rfl (by decide) (.slice vo l.length vc) l.length (l.map Value.string) rfl (hm.1.log.row.alloc _) ⟨w2.heap.size, 0, none⟩ 1 1 [.string x] rfl rfl (cell_one_new _ _ _) (by simp [Value.oneCell']) (by simp only [maxLen]; omega) (by omega) (Nat.zero_le _) ?_
           intro v w5 hown hg _ hat
           obtain ⟨vg, vcap, rfl, _⟩ := hown.form (by omega)
           have hgr := hm.1.grown hg hown hat
           have e3 : w5.cell? ⟨L, 3, none⟩ = some (.slice vo l.length vc) := hg.cell (by go_cell) (fun e => hm.1.log.apart e.symm)
           have g3 : w5.frozen? ⟨L, 3, none⟩ = false := (World.frozen?_of_block (w := w2) (a := ⟨L, 3, none⟩) ((hg.block _ (by simp; omega) (fun e => hm.1.log.apart e.symm)).trans (Below.heap_alloc _ _ _ hlt))).trans f3
           clear hown hg hat))
      go_returns
      exact ⟨rfl, (hm.to hgr).step⟩
    · have h0b : (appendS st.n 1 R == 0) = false := by simpa using h0
      have e4 : appendT st 1 R = st := by unfold appendT; rw [if_neg h0]
      rw [e4] at hap ⊢
      rw [if_neg h0]
      generalize appendS st.n 1 R = ea at *
      have h0 := Lib.hid h0
      clear e4
      go_enter Try.func26, Try.ntmps26
      go_wp2
      have k0 := c0
      have k1 := c1
      go_region_held3 (fun W => W.cell? ⟨L, 0, none⟩ = some (.pointer (some ⟨A, 0, none⟩)) ∧ W.cell? ⟨L, 1, none⟩ = some (.int .i64 s.round)) (first | exact ⟨e0, e1⟩ | exact ⟨k0, k1⟩) (first
        | (go_at_call 50; (with_reducible refine (hrow _).mono ?_); rintro e w1 ⟨rfl, hbel⟩
           have hm1 := hmd.below hbel
           have k0 : w1.cell? ⟨L, 0, none⟩ = some (.pointer (some ⟨A, 0, none⟩)) := hm1.1.log.cell 0
           have k1 : w1.cell? ⟨L, 1, none⟩ = some (.int .i64 s.round) := hm1.1.log.cell 1)
        | (go_at_call 30; (with_reducible refine (hap _ hbel).mono ?_); rintro e w2 ⟨rfl, hq⟩
           obtain ⟨W2, hm⟩ := hm1.rputs (st2 := st) hq
           have e0 : w2.cell? ⟨L, 0, none⟩ = some (.pointer (some ⟨A, 0, none⟩)) := hm.1.log.cell 0
           have e1 : w2.cell? ⟨L, 1, none⟩ = some (.int .i64 s.round) := hm.1.log.cell 1
           clear hq))
      go_wp2
      go_returns
      exact ⟨rfl, hm.step⟩
end Go.Proofs.Ytkiepnmbimkadaa.WL
