import Derived.Outline
import Derived.Deep.DeepFit
import Derived.Deep.Cut
import Derived.Deep.LoopGhost
import Derived.Test.YtkiepnmbimkadaaKRecovers35
import Derived.Test.YtkiepnmbimkadaaKRecovers36
import Derived.Test.YtkiepnmbimkadaaKRecovers28
namespace Go.Proofs.Ytkiepnmbimkadaa.WL
open Go.RowKit Go.Proofs.Ytkiepnmbimkadaa Go.Proofs.Ytkiepnmbimkadaa.DK Go.Proofs.Ytkiepnmbimkadaa.Pr Go.Proofs.Ytkiepnmbimkadaa.VP Go.Proofs.Ytkiepnmbimkadaa.VF Go.Proofs.Ytkiepnmbimkadaa.CF Go.Proofs.Ytkiepnmbimkadaa.WF
theorem reader_walk (a : Option Addr) (n c : Nat) (round : Int) (w : World) : Calls Try.prog 37 #[.slice a n c, .int .i64 round] w fun e w2 => e = .returned (.func (Fn.func 55) #[] #[.pointer (some ⟨w.heap.size + 2, 0, none⟩), .pointer (some ⟨w.heap.size, 0, none⟩), .pointer (some ⟨w.heap.size + 1, 0, none⟩)]) ∧
    w2 = ((w.alloc (.cells #[.slice a n c] 30)).alloc (.cells #[.int .i64 round] 3)).alloc (.cells #[.int .i64 0] 3) := by
  go_enter Try.func37, Try.ntmps37
  go_wp2
  go_returns
  exact ⟨rfl, rfl⟩
structure Reader (w w2 : World) (ba bl br : Nat) (V : Value) (round : Int) : Prop where
  bel : Below w.heap.size w w2
  a : w2.heap[ba]? = some (.cells #[.int .i64 0] 3 (0, 0))
  l : w2.heap[bl]? = some (.cells #[V] 30 (0, 0))
  r : w2.heap[br]? = some (.cells #[.int .i64 round] 3 (0, 0))
  la : w.heap.size ≤ bl ∧ w.heap.size ≤ br ∧ w.heap.size ≤ ba ∧ bl ≠ ba ∧ br ≠ ba
theorem reader_calls (a : Option Addr) (n c : Nat) (round : Int) (w : World) : Calls Try.prog 37 #[.slice a n c, .int .i64 round] w fun e w2 => ∃ ba bl br, e = .returned (.func (Fn.func 55) #[] #[.pointer (some ⟨ba, 0, none⟩), .pointer (some ⟨bl, 0, none⟩), .pointer (some ⟨br, 0, none⟩)]) ∧ Reader w w2 ba bl br (.slice a n c) round :=
  (reader_walk a n c round w).mono fun e w2 ⟨he, hw⟩ => by
    subst hw
    refine ⟨_, _, _, he, ⟨(((Below.refl _ _).alloc (Nat.le_refl _) _).alloc (by simp) _).alloc (by simp; omega) _, ?_, ?_, ?_, by omega⟩⟩
    · have := heap_alloc_new ((w.alloc (.cells #[.slice a n c] 30)).alloc (.cells #[.int .i64 round] 3)) (.cells #[.int .i64 0] 3)
      simpa using this
    · rw [heap_alloc_old _ _ (by simp; omega)]
      exact heap_alloc2_old w _ _
    · rw [heap_alloc_old _ _ (by simp)]
      exact heap_alloc2_new w _ _
def openE (st : St) : Int := (headS (st.n.at 0)).2.2
def openR (st : St) : Int := (headS (st.n.at 0)).1
def recsT (st : St) : List ByteArray := recsS (openR st) (allS (st.n.at 1)).1
def openL (st : St) : LSt := ⟨openR st, (headS (st.n.at 0)).2.1, recsT st, (recsT st).length⟩
def openT (st : St) : St := synced (if textS (openR st) (recsT st) = st.n.at 1 then st else replaceT st 1 (textS (openR st) (recsT st)))
theorem head_calls (s : ByteArray) (hs : s.size ≤ 140737488351232) (w : World) : Calls Try.prog 35 #[.string s] w fun e w2 => e = .returned (.tuple #[.int .i64 (headS s).1, .string (headS s).2.1, .int .i64 (headS s).2.2]) ∧ Below w.heap.size w w2 :=
  wal_head.calls 20 s _ _ _ w (head_f hs (by omega))
set_option maxHeartbeats 1000000 in
theorem open_bad {w : World} {A : Nat} {W : Value} {st : St} (h : At w A W st.n st.k st.l) {b : Nat} (hs : Sound b st) (he : openE st ≠ 0) :
    Calls Try.prog 10 #[.pointer (some ⟨A, 0, none⟩)] w fun e w2 => e = .returned (.tuple #[.pointer none, .int .i64 (openE st)]) ∧ Below w.heap.size w w2 := by
  have hz := hs.now_le 0
  have hh := head_calls (st.n.at 0) (by omega)
  have hrd := read_walk h 0
  unfold openE at *
  generalize headS (st.n.at 0) = H at *
  obtain ⟨r, t, e⟩ := H
  simp only [] at *
  have he1 : (e == 0) = false := by simpa using he
  have he2 : (e != 0) = true := by simpa using he
  have he := Lib.hid he
  clear h hs
  go_enter Try.func10, Try.ntmps10
  go_wp2_with (first
    | (go_at_call 21; (with_reducible refine hrd.mono ?_); rintro e w2 ⟨rfl, rfl⟩)
    | (go_at_call 35; (with_reducible refine (hh _).mono ?_); rintro e w2 ⟨rfl, hb⟩))
  go_ret2
  exact ⟨rfl, hb⟩
theorem own_strs {w : World} {base : Nat} {ok : Nat → Prop} {v : Value} {xs : List ByteArray} (h : YtkiepnmbimkadaaW.PrintWords.Kd.R YtkiepnmbimkadaaW.PrintWords.Kd.string 9 w base ok v xs) : w.ownsRow base 9 1 v xs.length (xs.map Value.string) := YtkiepnmbimkadaaW.PrintWords.Kd.own_of_R h
theorem LAt.pushed {T : TypeId} {w4 wr w5 : World} {L A : Nat} {V v : Value} {r : Int} {t x : ByteArray} {d : List ByteArray} {u : Nat} {F : Nat → Prop} (h : LAt T wr L A V ⟨r, t, d, u⟩) (hK : KeepsF w4 wr F) (hV : ∀ b, V.ownBlock = some b → w4.heap.size ≤ b) (hF : F L)
    (hg : (wr.alloc (.cells #[.string x] 9)).grownBy w5 V.ownBlock) (hown : w5.ownsRow 0 9 1 v (d.length + 1) (d.map Value.string ++ [.string x])) (hat : v.ownBlock = V.ownBlock ∨ v.ownBlock = some (wr.alloc (.cells #[.string x] 9)).heap.size) :
    LAt T (w5.setCell ⟨L, 3, none⟩ v) L A v ⟨r, t, d ++ [x], u⟩ ∧ KeepsF w4 (w5.setCell ⟨L, 3, none⟩ v) F ∧ (∀ b, v.ownBlock = some b → w4.heap.size ≤ b) ∧ ∀ k, k < w4.heap.size → k ≠ L → (w5.setCell ⟨L, 3, none⟩ v).heap[k]? = wr.heap[k]? := by
  have hL := h.lt
  have hs := hK.size
  have hv : ∀ b, v.ownBlock = some b → w4.heap.size ≤ b := fun b e => by
    rcases hat with g | g
    · rw [g] at e; exact hV b e
    · rw [g] at e; simp at e; omega
  have hvL : v.ownBlock ≠ some L := fun e => by
    rcases hat with g | g
    · rw [g] at e; exact h.apart e
    · rw [g] at e; simp at e; omega
  have hblk : ∀ k, k < w4.heap.size → w5.heap[k]? = wr.heap[k]? := fun k hk =>
    (hg.block k (by simp; omega) (fun e => by have := hV k e.symm; omega)).trans (Below.heap_alloc _ _ _ (by omega))
  have hLb : w5.heap[L]? = wr.heap[L]? := (hg.block L (by simp; omega) (fun e => h.apart e.symm)).trans (Below.heap_alloc _ _ _ hL)
  refine ⟨⟨(set_self (hLb.trans h.cells)).trans (by simp [lcells]), ?_, hvL⟩, ?_, hv, fun k hk hn => (Below.heap_setCell _ _ _ _ hn).trans (hblk k hk)⟩
  · rw [List.length_append, List.map_append]
    exact row_moved hown (fun k e => Below.heap_setCell _ _ _ _ (fun g => hvL (by rw [e]; exact congrArg some g)))
  · have hK5 : KeepsF w4 w5 F := ⟨hg.os.trans hK.os, hg.tape.trans hK.tape, hg.output.trans hK.output, by have := hg.size; simp at this; omega, fun k hk hn => (hblk k hk).trans (hK.block k hk hn)⟩
    exact hK5.setCell (.inl hF) 3 v
def Opened (K : Kind) (T : TypeId) (w w2 : World) (A : Nat) (W : Value) (L : Nat) (st : St) (s : LSt) : Prop :=
  ∃ W2 V2, PL K T w2 A W2 L V2 st s ∧ KeepsF w w2 (fun k => k = A ∨ W.ownBlock = some k) ∧ (∀ k, InF A W2 L V2 k → (k = A ∨ W.ownBlock = some k) ∨ w.heap.size ≤ k) ∧ w.heap.size ≤ L
theorem Opened.of {K : Kind} {T : TypeId} {w wr w9 : World} {A : Nat} {W : Value} {L : Nat} {V : Value} {st : St} {s : LSt} (hb : Below w.heap.size w wr) (hL : w.heap.size ≤ L) (hV : ∀ b, V.ownBlock = some b → w.heap.size ≤ b) (hst : Step K T wr w9 A W L V st s) : Opened K T w w9 A W L st s := by
  obtain ⟨W2, V2, a, b, c⟩ := hst
  refine ⟨W2, V2, a, ⟨b.os.trans hb.os, b.tape.trans hb.tape, b.output.trans hb.output, Nat.le_trans hb.size b.size, fun k hk hn => (b.block k (Nat.lt_of_lt_of_le hk hb.size) (fun g => ?_)).trans (hb.block k hk)⟩, fun k g => ?_, hL⟩
  · rcases g with g | g | g | g
    · exact hn (.inl g)
    · exact hn (.inr g)
    · omega
    · have := hV k g; omega
  · rcases c k g with g | g
    · rcases g with g | g | g | g
      · exact .inl (.inl g)
      · exact .inl (.inr g)
      · exact .inr (by omega)
      · exact .inr (hV k g)
    · exact .inr (Nat.le_trans hb.size g)
structure Loop (w4 wr : World) (L A ba : Nat) (V : Value) (al : List ByteArray) (round : Int) (text : ByteArray) (recs d rest : List ByteArray) (j : Nat) : Prop where
  log : LAt 65 wr L A V ⟨round, text, d, 0⟩
  fresh : ∀ b, V.ownBlock = some b → w4.heap.size ≤ b
  keeps : KeepsF w4 wr (fun k => k = L ∨ k = ba)
  all : recs = d ++ rest
  place : j ≤ al.length ∧ wr.heap[ba]? = some (.cells #[.int .i64 j] 3 (0, 0)) ∧ (rest ≠ [] → recsS round (al.drop j) = rest.drop 1)
set_option maxHeartbeats 4000000 in
set_option maxRecDepth 100000 in
theorem open_good {w : World} {A : Nat} {W : Value} {st : St} (h : At w A W st.n st.k st.l) {b : Nat} (hs : Sound b st) (hb0 : b ≤ 900) (he : openE st = 0) :
    Calls Try.prog 10 #[.pointer (some ⟨A, 0, none⟩)] w fun e w2 => ∃ L, e = .returned (.tuple #[.pointer (some ⟨L, 0, none⟩), .int .i64 0]) ∧ Opened own 65 w w2 A W L (openT st) (openL st) := by
  have hz := hs.now_le 0
  have hz1 := hs.now_le 1
  have hlen := hs.len
  have hh := head_calls (st.n.at 0) (by omega)
  have hrd := read_walk h 0
  have hRd := headS_round (st.n.at 0)
  obtain ⟨hr0, hr1, hts⟩ := hRd
  have hall := fun w => check_All.calls (2 * (st.n.at 1).size + 100) (st.n.at 1) (allS (st.n.at 1)).1 (allS (st.n.at 1)).2 w (all_f (by omega)).1
  have hab := allS_bd (s := st.n.at 1) (by omega)
  have hrb := recsS_bd (headS (st.n.at 0)).1 (b := 65536) (allS (st.n.at 1)).1 hab.2
  unfold openT openL recsT openR openE at *
  generalize headS (st.n.at 0) = H at *
  obtain ⟨round, text, e⟩ := H
  simp only [] at *
  subst he
  generalize allS (st.n.at 1) = AL at *
  obtain ⟨al, ap⟩ := AL
  simp only [] at *
  have hrd1 := fun w2 (hb : Below w.heap.size w w2) => read_walk (h.below hb) 1
  obtain ⟨recs, hrecs⟩ : ∃ recs, recsS round al = recs := ⟨_, rfl⟩
  rw [hrecs] at hrb ⊢
  have hrow := fun (x : ByteArray) (hx : x.size ≤ 65536) w => wal_row.calls 20 round x (rowB round x) w (row_f hr0 (by omega) (by omega) (by omega))
  have HC := Lib.hid hrecs
  obtain ⟨SF, hSF⟩ : ∃ SF, synced (if textS round recs = st.n.at 1 then st else replaceT st 1 (textS round recs)) = SF := ⟨_, rfl⟩
  rw [hSF]
  have HF := Lib.hid hSF
  have HS := Lib.hid hs
  have HH := Lib.hid h
  have HA := Lib.hid hab
  have HR := Lib.hid hrb
  clear h hs hab hrb hrecs hSF
  go_enter Try.func10, Try.ntmps10
  go_wp2_with (first
    | (go_at_call 21; (with_reducible refine hrd.mono ?_); rintro e w2 ⟨rfl, rfl⟩)
    | (go_at_call 35; (with_reducible refine (hh _).mono ?_); rintro e w1 ⟨rfl, hb1⟩)
    | (go_at_call 21; (with_reducible refine (hrd1 _ (hb1.alloc hb1.size _)).mono ?_); rintro e w2 ⟨rfl, rfl⟩)
    | (go_at_call 36; (with_reducible refine (hall _).mono ?_); rintro e w3 ⟨v0, rfl, hR3, hb3⟩
       have hown3 := own_strs hR3
       obtain ⟨vo, vc, rfl⟩ := own_form hown3
       clear hR3)
    | (go_at_call 37; (with_reducible refine (reader_calls _ _ _ _ _).mono ?_); rintro e w4 ⟨ba, bl, br, rfl, hRd⟩))
  have hs1 := hb1.size
  have hs3 := hb3.size
  have hs4 := hRd.bel.size
  have hl4 := hRd.la
  simp only [World.size_alloc] at hs3
  have hal0 := HA.out.1
  have hrb0 := HR.out.1
  have hrow4 : w4.ownsRow 0 9 1 (.slice vo al.length vc) al.length (al.map Value.string) := row_base (row_moved hown3 (fun k e => hRd.bel.block k (hown3.lt k e).2)) (Nat.zero_le _)
  have hrlt := fun k e => (hown3.lt k e).2
  have hlog4 : LAt 65 w4 w1.heap.size A (.slice none 0 0) ⟨round, text, [], 0⟩ :=
    ⟨(hRd.bel.block _ (by omega)).trans ((hb3.block _ (by simp)).trans (heap_alloc_new w1 _)), World.ownsRow_nil _ _ _ _, fun e => by rw [nil_own] at e; cases e⟩
  (with_reducible refine (next_any hRd.a hRd.l hRd.r hrow4 hl4.2.2.2.1 hl4.2.2.2.2 (fun e => by have := hrlt _ e; omega) (Nat.zero_le _) (by omega) HA.out.2 hr0 (by omega) (rest := recs) (by rw [List.drop_zero]; exact HC.out)).mono ?_)
  rintro e w5 ⟨rfl, hK5, hJ⟩
  have hloop : ∃ j, Loop w4 w5 w1.heap.size A ba (.slice none 0 0) al round text recs [] recs j := by
    obtain ⟨j, hj, hb, hn⟩ := hJ.out
    exact ⟨j, hlog4.moved (hK5.block _ hlog4.lt (by omega)) (fun k e => by rw [nil_own] at e; cases e), (fun b e => by rw [nil_own] at e; cases e), hK5.mono (fun k _ g => .inr g), rfl, hj, hb, hn⟩
  have HL := Lib.hid hloop
  have HB := Lib.hid (((hb1.alloc hb1.size _).trans (hb3.mono (by simp; omega))).trans (hRd.bel.mono (by omega)) : Below w.heap.size w w4)
  clear hloop hJ hK5 hlog4
  go_wp2
  go_loopg [11, 12, 13] recs.length (fun gg v11 v12 v13 wr => ∃ (d rest : List ByteArray) (j : Nat) (V : Value), gg = rest.length ∧ v11 = .string (textS round d) ∧ v12 = .string (hdS rest) ∧ v13 = .bool (neS rest) ∧ Loop w4 wr w1.heap.size A ba V al round text recs d rest j)
  case atStart =>
    obtain ⟨j, hj⟩ := HL.out
    exact ⟨[], recs, j, _, rfl, rfl, rfl, rfl, hj⟩
  case round =>
    obtain ⟨d, rest, j, V, rfl, rfl, rfl, rfl, hLp⟩ := hrel
    have HP := Lib.hid hLp
    clear hLp HL
    cases rest with
    | nil =>
      have hd : d = recs := by
        have := HP.out.all
        simpa using this.symm
      subst hd
      have hlp := HP.out
      have hbw := hlp.keeps.bel (HB.out) (by omega) (by rintro k (rfl | rfl) <;> omega)
      have hP : PL own 65 wr A W w1.heap.size V st ⟨round, text, d, 0⟩ := ⟨HH.out.below hbw, hlp.log, Off.fresh HH.out (by omega) (fun b e => by have := hlp.fresh b e; omega)⟩
      have hVf : ∀ b, V.ownBlock = some b → w.heap.size ≤ b := fun b e => by have := hlp.fresh b e; omega
      have hLf : w.heap.size ≤ w1.heap.size := hb1.size
      clear hlp
      have hsz := textS_size round d (b := 65536) HR.out.2
      have hm : d.length * (65536 + 22) ≤ 65536 * (65536 + 22) := Nat.mul_le_mul (by omega) (Nat.le_refl _)
      have hro := read_walk (w := wr) (HH.out.below hbw) 1
      have hrp := replace_walk (w := wr) (HH.out.below hbw) (by omega) 1 (textS round d) (by omega)
      have hrq := fun w2 hq => replace_puts (st := st) (w := wr) (w2 := w2) (i := 1) (s := textS round d) (HH.out.below hbw) hq
      generalize textS round d = T at *
      clear hsz hm
      by_cases ht : T = st.n.at 1
      · have hSF := HF.out
        rw [if_pos ht] at hSF
        subst hSF
        clear HF
        subst ht
        have hsy := lsync_walk hP (by show d.length ≤ _; omega)
        have HO := Lib.hid hbw
        clear hb1 hb3 hRd hbw hrq hrp
        go_wp2_with (first
          | (go_at_call 21; (with_reducible refine hro.mono ?_); rintro e w2 ⟨rfl, rfl⟩)
          | (go_at_call 16; (with_reducible refine hsy.mono ?_); rintro e w2 ⟨rfl, hst⟩))
        go_ret2
        exact ⟨_, rfl, Opened.of HO.out hLf hVf hst⟩
      · have hSF := HF.out
        rw [if_neg ht] at hSF
        subst hSF
        clear HF
        have hb1' : (T.toList == (st.n.at 1).toList) = false := by
          have : ¬ T.toList = (st.n.at 1).toList := fun g => ht (toList_inj.1 g)
          simpa using this
        have hb2' : (T.toList != (st.n.at 1).toList) = true := by
          have : ¬ T.toList = (st.n.at 1).toList := fun g => ht (toList_inj.1 g)
          simpa using this
        have HO := Lib.hid hbw
        clear hb1 hb3 hRd hbw
        have ht := Lib.hid ht
        go_wp2_with (first
          | (go_at_call 21; (with_reducible refine hro.mono ?_); rintro e w2 ⟨rfl, rfl⟩)
          | (go_at_call 22; (with_reducible refine hrp.mono ?_); rintro e w6 ⟨rfl, hq⟩
             obtain ⟨W6, hD, hk, hW⟩ := hrq _ hq
             have hm6 := Mid.disk (st2 := replaceT st 1 T) hP hD hk hW
             have hsy := lsync_walk hm6.1 (by show d.length ≤ _; omega)
             clear hq hD hk hW)
          | (go_at_call 16; (with_reducible refine hsy.mono ?_); rintro e w2 ⟨rfl, hst⟩))
        go_ret2
        exact ⟨_, rfl, Opened.of HO.out hLf hVf (hm6.then_ hst)⟩
    | cons s m =>
      rw [show hdS (s :: m) = s from rfl, show neS (s :: m) = true from rfl]
      obtain ⟨vo2, vc2, rfl⟩ := own_form HP.out.log.row
      have d3 : wr.cell? ⟨w1.heap.size, 3, none⟩ = some (.slice vo2 d.length vc2) := HP.out.log.cell 3
      have f3 : wr.frozen? ⟨w1.heap.size, 3, none⟩ = false := HP.out.log.frozen 3
      have hlt := HP.out.log.lt
      have hdl : d.length + 1 ≤ recs.length := by rw [HP.out.all]; simp
      have hsz : s.size ≤ 65536 := HR.out.2 s (by rw [HP.out.all]; simp)
      have htz := textS_size round d (b := 65536) (fun x hx => HR.out.2 x (by rw [HP.out.all]; simp [hx]))
      have hm : d.length * (65536 + 22) ≤ 65536 * (65536 + 22) := Nat.mul_le_mul (by omega) (Nat.le_refl _)
      have hrz := (rowB_size round s).2
      have cc : (textS round d).size + (rowB round s).size ≤ 9223372036854775807 := by omega
      have hrw := hrow s hsz
      have hrec : Hid (recsS round (al.drop j) = m) := Lib.hid (HP.out.place.2.2 (by simp))
      have hjl := HP.out.place.1
      have hts2 : Hid (textS round (d ++ [s]) = textS round d ++ rowB round s) := Lib.hid (textS_snoc round d s)
      obtain ⟨i0, hi54, hz54⟩ := Option.map_eq_some_iff.1 infoS
      simp only [Prod.mk.injEq] at hz54
      obtain ⟨hz0, hz1', hz2⟩ := hz54
      have hba4 : ba < w4.heap.size := (Array.getElem?_eq_some_iff.1 hRd.a).1
      have hbl4 : bl < w4.heap.size := (Array.getElem?_eq_some_iff.1 hRd.l).1
      have hbr4 : br < w4.heap.size := (Array.getElem?_eq_some_iff.1 hRd.r).1
      have hL4 : w1.heap.size < w4.heap.size := by omega
      have hK0 := HP.out.keeps.size
      clear htz hm hrz hrow
      go_wp2_with (first
        | (at_builtin; refine wpList_append_own_at _ rfl (.tmp 53) (.tmp 55) 30 rfl 0 9 i0 (.string ⟨#[]⟩) 1 16 underSS hi54 hz0 hz1' hz2 rfl (by decide) (.slice vo2 d.length vc2) d.length (d.map Value.string) rfl (HP.out.log.row.alloc _) ⟨wr.heap.size, 0, none⟩ 1 1 [.string s] rfl rfl (cell_one_new _ _ _) (by simp [Value.oneCell']) (by simp only [maxLen]; omega) (by omega) (Nat.zero_le _) ?_
           intro v w5 hown hg _ hat
           obtain ⟨vg, vcap, rfl, _⟩ := hown.form (by omega)
           have hpu := HP.out.log.pushed HP.out.keeps HP.out.fresh (.inl rfl) hg hown hat
           have e3 : w5.cell? ⟨w1.heap.size, 3, none⟩ = some (.slice vo2 d.length vc2) := hg.cell (by go_cell) (fun e => HP.out.log.apart e.symm)
           have g3 : w5.frozen? ⟨w1.heap.size, 3, none⟩ = false := (World.frozen?_of_block (w := wr) (a := ⟨w1.heap.size, 3, none⟩) ((hg.block _ (by simp; omega) (fun e => HP.out.log.apart e.symm)).trans (Below.heap_alloc _ _ _ hlt))).trans f3
           clear hown hg hat)
        | (go_at_call 38; (with_reducible refine (hrw _).mono ?_); rintro e w7 ⟨rfl, hb7⟩))
      obtain ⟨hp1, hp2, hp3, hp4⟩ := hpu
      have hs7 := hb7.size
      have hs6 := hp2.size
      have hK7 := hp2.below hb7
      have q0 := (hb7.block ba (by omega)).trans ((hp4 ba hba4 (by omega)).trans HP.out.place.2.1)
      have q1 := (hK7.block bl hbl4 (by rintro (g | g) <;> omega)).trans hRd.l
      have q2 := (hK7.block br hbr4 (by rintro (g | g) <;> omega)).trans hRd.r
      have q3 := row_moved hrow4 (fun k e => hK7.block k (by have := hrlt k e; omega) (by have g1 := hrlt k e; have g2 := (hown3.lt k e).1; rw [World.size_alloc] at g2; rintro (g | g) <;> omega))
      (with_reducible refine (next_any q0 q1 q2 q3 hl4.2.2.2.1 hl4.2.2.2.2 (fun e => by have := hrlt _ e; omega) hjl (by omega) HA.out.2 hr0 (by omega) hrec.out).mono ?_)
      rintro e w8 ⟨rfl, hK8, hJ⟩
      have hlp8 : Hid (∃ j, Loop w4 w8 w1.heap.size A ba (.slice (some ⟨vg, 0, none⟩) (d.length + 1) vcap) al round text recs (d ++ [s]) m j) := by
        obtain ⟨j2, hj2, hb8, hn8⟩ := hJ.out
        have hlog7 : LAt 65 w7 w1.heap.size A (.slice (some ⟨vg, 0, none⟩) (d.length + 1) vcap) ⟨round, text, d ++ [s], 0⟩ := hp1.moved (hb7.block _ hp1.lt) (fun k e => hb7.block k (hp1.row.lt k e).2)
        exact Lib.hid ⟨j2, hlog7.moved (hK8.block _ hlog7.lt (by omega)) (fun k e => hK8.block k (hlog7.row.lt k e).2 (by have := hp3 k e; omega)), hp3, hK7.trans hK8 (fun k _ g => .inr g), (by rw [HP.out.all, List.append_assoc]; rfl), hj2, hb8, hn8⟩
      clear hJ hK8 hp1 hp2 hp3 hp4 hK7 q0 q1 q2 q3 hb7
      go_wp2
      go_roundg m.length
      case measure => simp
      case rel =>
        obtain ⟨j2, h8⟩ := hlp8.out
        exact ⟨d ++ [s], m, j2, _, rfl, by rw [hts2.out], rfl, rfl, h8⟩
end Go.Proofs.Ytkiepnmbimkadaa.WL
