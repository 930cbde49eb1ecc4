import Derived.Test.YtkiepnmbimkadaaKOpens44
namespace Go.Proofs.Ytkiepnmbimkadaa.WL
open Go.RowKit Go.Proofs.Ytkiepnmbimkadaa Go.Proofs.Ytkiepnmbimkadaa.DK Go.Proofs.Ytkiepnmbimkadaa.Pr Go.Proofs.Ytkiepnmbimkadaa.VP Go.Proofs.Ytkiepnmbimkadaa.VF Go.Proofs.Ytkiepnmbimkadaa.CF Go.Proofs.Ytkiepnmbimkadaa.WF
theorem rhead_calls (s : ByteArray) (hs : s.size ≤ 140737488351232) (w : World) : Calls Try.prog 45 #[.string s] w fun e w2 => e = .returned (.tuple #[.int .i64 (headS s).1, .string (headS s).2.1, .int .i64 (headS s).2.2]) ∧ Below w.heap.size w w2 :=
  rivuletref10_Head.calls (s.size + 70) s _ _ _ w (rhead_f hs (Nat.le_refl _))
theorem recs_calls (s : ByteArray) (hs : s.size ≤ 1000000) {round : Int} (h0 : 0 ≤ round) (h1 : round ≤ 9223372036854775807) (w : World) : Calls Try.prog 46 #[.string s, .int .i64 round] w fun e w2 => ∃ o c, e = .returned (.slice o (recsS round (allS s).1).length c) ∧ w2.ownsRow w.heap.size 9 1 (.slice o (recsS round (allS s).1).length c) (recsS round (allS s).1).length ((recsS round (allS s).1).map Value.string) ∧ Below w.heap.size w w2 :=
  (rivuletref10_Records.calls _ s round _ w (recs_f h0 h1 hs rfl)).mono fun e w2 ⟨v, he, hR, hb⟩ => by
    have ho := own_strs hR
    obtain ⟨o, c, rfl⟩ := own_form ho
    exact ⟨o, c, he, ho, hb⟩
theorem strs_C {w : World} {base : Nat} {o : Option Addr} {c : Nat} {l : List ByteArray} (h : w.ownsRow base 9 1 (.slice o l.length c) l.length (l.map Value.string)) : YtkiepnmbimkadaaW.PrintWords.Kd.C YtkiepnmbimkadaaW.PrintWords.Kd.string w o l.length l ∧ l.length ≤ c := by
  have hR : YtkiepnmbimkadaaW.PrintWords.Kd.R YtkiepnmbimkadaaW.PrintWords.Kd.string 9 w base (fun _ => True) (.slice o l.length c) l := YtkiepnmbimkadaaW.PrintWords.Kd.R_of_own h (fun _ _ => trivial)
  have h2 := YtkiepnmbimkadaaW.PrintWords.Kd.R_reads' hR
  exact ⟨h2.2.2, h2.2.1⟩
theorem text_calls {w : World} {base : Nat} {o : Option Addr} {c : Nat} {l : List ByteArray} (h : w.ownsRow base 9 1 (.slice o l.length c) l.length (l.map Value.string)) {round : Int} (h0 : 0 ≤ round) (h1 : round ≤ 9223372036854775807) (hl : ∀ x ∈ l, x.size ≤ 65536) (hn : l.length ≤ 1000000) :
    Calls Try.prog 47 #[.int .i64 round, .slice o l.length c] w fun e w2 => e = .returned (.string (textS round l)) ∧ Below w.heap.size w w2 :=
  rivuletref10_Text.calls (l.length + 65536 + 60) round o c l _ w (strs_C h).1 (strs_C h).2 (text_f h0 h1 l (b := 65536) (by decide) hl hn (Nat.le_refl _))
set_option maxHeartbeats 1000000 in
theorem ropen_bad {w : World} {A : Nat} {W : Value} {st : St} (h : RAt w A W st.k st.l) {b : Nat} (hs : Sound b st) (hb : b ≤ 900) (he : openE st ≠ 0) :
    Calls Try.prog 24 #[.pointer (some ⟨A, 0, none⟩)] w fun e w2 => e = .returned (.tuple #[.pointer none, .int .i64 (openE st)]) ∧ Below w.heap.size w w2 := by
  have hz := hs.now_le 0
  have hh := rhead_calls (st.n.at 0) (by omega)
  have hrd := rread_walk h hs (by omega) 0
  unfold openE at *
  generalize headS (st.n.at 0) = H at *
  obtain ⟨r, t, e⟩ := H
  simp only [] at *
  have he1 : (e == 0) = false := by simpa using he
  have he2 : (e != 0) = true := by simpa using he
  have he := Lib.hid he
  clear h hs
  go_enter Try.func24, Try.ntmps24
  go_wp2_with (first
    | (go_at_call 33; (with_reducible refine hrd.mono ?_); rintro e w2 ⟨rfl, hb2⟩)
    | (go_at_call 45; (with_reducible refine (hh _).mono ?_); rintro e w3 ⟨rfl, hb3⟩))
  go_ret2
  exact ⟨rfl, hb2.trans (hb3.mono hb2.size)⟩
set_option maxHeartbeats 4000000 in
set_option maxRecDepth 100000 in
theorem ropen_good {w : World} {A : Nat} {W : Value} {st : St} (h : RAt w A W st.k st.l) {b : Nat} (hs : Sound b st) (hb0 : b ≤ 900) (he : openE st = 0) :
    Calls Try.prog 24 #[.pointer (some ⟨A, 0, none⟩)] w fun e w2 => ∃ L, e = .returned (.tuple #[.pointer (some ⟨L, 0, none⟩), .int .i64 0]) ∧ Opened ref 84 w w2 A W L (openT st) (openL st) := by
  have hz := hs.now_le 0
  have hz1 := hs.now_le 1
  have hlen := hs.len
  have hh := rhead_calls (st.n.at 0) (by omega)
  have hRd := headS_round (st.n.at 0)
  obtain ⟨hr0, hr1, hts⟩ := hRd
  have hrec := fun w => recs_calls (st.n.at 1) (by omega) hr0 (by omega) w
  have hab := allS_bd (s := st.n.at 1) (by omega)
  have hrb := recsS_bd (headS (st.n.at 0)).1 (b := 65536) (allS (st.n.at 1)).1 hab.2
  have hrd := fun w2 (hb2 : Below w.heap.size w w2) i => rread_walk (h.below hb2) hs (by omega) i
  unfold openT openL recsT openR openE at *
  generalize headS (st.n.at 0) = H at *
  obtain ⟨round, text, e⟩ := H
  simp only [] at *
  subst he
  have hl2 : (recsS round (allS (st.n.at 1)).1).length ≤ 65536 := Nat.le_trans hrb.1 (Nat.le_trans hab.1 hz1)
  have hx2 := hrb.2
  have htc := fun w3 base o c hw => text_calls (w := w3) (base := base) (o := o) (c := c) hw hr0 (by omega) hx2 (by omega)
  have hsz := textS_size round _ (b := 65536) hx2
  have hmu : (recsS round (allS (st.n.at 1)).1).length * (65536 + 22) ≤ 65536 * (65536 + 22) := Nat.mul_le_mul hl2 (Nat.le_refl _)
  clear hab hrb
  generalize recsS round (allS (st.n.at 1)).1 = recs at *
  obtain ⟨SF, hSF⟩ : ∃ SF, synced (if textS round recs = st.n.at 1 then st else replaceT st 1 (textS round recs)) = SF := ⟨_, rfl⟩
  rw [hSF]
  have HF := Lib.hid hSF
  have HS := Lib.hid hs
  have HH := Lib.hid h
  have HX := Lib.hid hx2
  have htz : (textS round recs).size ≤ 5000000000 := Nat.le_trans hsz (Nat.le_trans hmu (by decide))
  clear h hs hSF hx2 hsz hmu
  go_enter Try.func24, Try.ntmps24
  go_wp2_with (first
    | (go_at_call 33; (with_reducible refine (hrd _ (Below.refl _ _) 0).mono ?_); rintro e w2 ⟨rfl, hb2⟩)
    | (go_at_call 45; (with_reducible refine (hh _).mono ?_); rintro e w3 ⟨rfl, hb3⟩
       have hb3 := hb2.trans (hb3.mono hb2.size))
    | (go_at_call 33; (with_reducible refine (hrd _ hb3 1).mono ?_); rintro e w4 ⟨rfl, hb4⟩
       have hb4 := hb3.trans (hb4.mono hb3.size))
    | (go_at_call 46; (with_reducible refine (hrec _).mono ?_); rintro e w5 ⟨vo, vc, rfl, hown5, hb5⟩
       have hb5 := hb4.trans (hb5.mono hb4.size)))
  have hs2 := hb5.size
  have hs4 := hb4.size
  have hb6 := hb5.alloc hb5.size (.cells #[.pointer (some ⟨A, 0, none⟩), .int .i64 round, .string text, .slice vo recs.length vc, .int .i64 0] 84)
  have hvl := fun k e => hown5.lt k e
  have hlog : LAt 84 (w5.alloc (.cells #[.pointer (some ⟨A, 0, none⟩), .int .i64 round, .string text, .slice vo recs.length vc, .int .i64 0] 84)) w5.heap.size A (.slice vo recs.length vc) ⟨round, text, recs, 0⟩ :=
    ⟨heap_alloc_new w5 _, row_base (hown5.alloc _) (Nat.zero_le _), fun e => by have := (hvl _ e).2; omega⟩
  have hA := HH.out.lt
  have hW := fun b e => (HH.out.row.lt b e).2
  have hoff : Off w5.heap.size (.slice vo recs.length vc) A W := ⟨by omega, (fun e => by have := (hvl _ e).1; omega), (fun e => by have := hW _ e; omega), fun b e1 e2 => by have := (hvl _ e1).1; have := hW _ e2; omega⟩
  have hP : PL ref 84 (w5.alloc (.cells #[.pointer (some ⟨A, 0, none⟩), .int .i64 round, .string text, .slice vo recs.length vc, .int .i64 0] 84)) A W w5.heap.size (.slice vo recs.length vc) st ⟨round, text, recs, 0⟩ := ⟨HH.out.below hb6, hlog, hoff⟩
  have hVf : ∀ b, (Value.slice vo recs.length vc).ownBlock = some b → w.heap.size ≤ b := fun b e => by have := (hvl b e).1; omega
  have hLf : w.heap.size ≤ w5.heap.size := hs2
  have htx := htc _ _ _ _ (hown5.alloc (.cells #[.pointer (some ⟨A, 0, none⟩), .int .i64 round, .string text, .slice vo recs.length vc, .int .i64 0] 84))
  clear htc hrec hh hoff hvl hown5 hlog
  generalize hT : textS round recs = T at *
  clear hT
  (with_reducible refine htx.mono ?_)
  rintro e w6 ⟨rfl, hb7⟩
  have hb8 := hb6.trans (hb7.mono hb6.size)
  have hP6 := hP.below hb7
  generalize hL : w5.heap.size = L at *
  clear hL hP hb6 hb7 hb5 htx
  by_cases ht : T = st.n.at 1
  · have hSF := HF.out
    rw [if_pos ht] at hSF
    subst hSF
    clear HF
    subst ht
    go_wp2_with (first
      | (go_at_call 33; (with_reducible refine (hrd _ hb8 1).mono ?_); rintro e w7 ⟨rfl, hb9⟩
         have hb10 := hb8.trans (hb9.mono hb8.size)
         have hsy := rlsync_walk (hP6.below hb9) HS.out (by omega) (by show recs.length ≤ _; omega))
      | (go_at_call 28; (with_reducible refine hsy.mono ?_); rintro e w8 ⟨rfl, hst⟩))
    go_ret2
    exact ⟨_, rfl, Opened.of hb10 hLf hVf hst⟩
  · have hSF := HF.out
    rw [if_neg ht] at hSF
    subst hSF
    clear HF
    have hb1' : (T.toList == (st.n.at 1).toList) = false := by
      have : ¬ T.toList = (st.n.at 1).toList := fun g => ht (toList_inj.1 g)
      simpa using this
    have hb2' : (T.toList != (st.n.at 1).toList) = true := by
      have : ¬ T.toList = (st.n.at 1).toList := fun g => ht (toList_inj.1 g)
      simpa using this
    have HS2 := Lib.hid (HS.out.replace 1 T)
    have ht := Lib.hid ht
    go_wp2_with (first
      | (go_at_call 33; (with_reducible refine (hrd _ hb8 1).mono ?_); rintro e w7 ⟨rfl, hb9⟩
         have hb10 := hb8.trans (hb9.mono hb8.size)
         have hP7 := hP6.below hb9)
      | (go_at_call 32; (with_reducible refine (rreplace_walk (Mid.rdsk (Mid.refl hP7)) (by omega) 1 T (by omega)).mono ?_); rintro e w8 ⟨rfl, hq⟩
         obtain ⟨W8, hm8⟩ := (Mid.refl hP7).rputs (st2 := replaceT st 1 T) hq
         have hsy := rlsync_walk hm8.1 HS2.out (by omega) (by show recs.length ≤ _; omega)
         clear hq)
      | (go_at_call 28; (with_reducible refine hsy.mono ?_); rintro e w8 ⟨rfl, hst⟩))
    go_ret2
    exact ⟨_, rfl, Opened.of hb10 hLf hVf (hm8.then_ hst)⟩
end Go.Proofs.Ytkiepnmbimkadaa.WL
