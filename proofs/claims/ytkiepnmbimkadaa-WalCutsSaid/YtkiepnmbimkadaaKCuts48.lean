import Derived.Test.YtkiepnmbimkadaaKCuts47
import Derived.Test.YtkiepnmbimkadaaKCuts16
namespace Go.Proofs.Ytkiepnmbimkadaa.WL
open Go.RowKit Go.Proofs.Ytkiepnmbimkadaa Go.Proofs.Ytkiepnmbimkadaa.DK Go.Proofs.Ytkiepnmbimkadaa.Pr Go.Proofs.Ytkiepnmbimkadaa.VP Go.Proofs.Ytkiepnmbimkadaa.VF Go.Proofs.Ytkiepnmbimkadaa.CF Go.Proofs.Ytkiepnmbimkadaa.WF Go.Proofs.Ytkiepnmbimkadaa.ML
attribute [local go_sem] max2_int min2_int max_two min_two
theorem text_cut (r : Int) : ∀ (l : List ByteArray) (j : Nat), j ≤ (textS r l).size → ∃ (q : Nat) (x : ByteArray) (i : Nat), q ≤ l.length ∧ i < (rowB r x).size ∧ (x = ⟨#[]⟩ ∨ x ∈ l) ∧ (textS r l).extract 0 j = textS r (l.take q) ++ (rowB r x).extract 0 i
  | [], j, hj => by
    refine ⟨0, ⟨#[]⟩, 0, Nat.le_refl _, by have := rowB_size r ⟨#[]⟩; omega, .inl rfl, ?_⟩
    have : j = 0 := by
      have h0 : (textS r []).size = 0 := rfl
      omega
    subst this
    rw [row_none, row_none]
    rfl
  | x :: l, j, hj => by
    have hs : (textS r (x :: l)).size = (rowB r x).size + (textS r l).size := ByteArray.size_append
    have he : (textS r (x :: l)).extract 0 j = (rowB r x).extract 0 (min j (rowB r x).size) ++ (textS r l).extract 0 (j - min j (rowB r x).size) := extract_cat _ _ _
    by_cases h : j < (rowB r x).size
    · refine ⟨0, x, j, Nat.zero_le _, h, .inr (by simp), ?_⟩
      rw [he, Nat.min_eq_left (by omega), Nat.sub_self, row_none, app_nil]
      show _ = (⟨#[]⟩ : ByteArray) ++ _
      rw [nil_app]
    · obtain ⟨q, y, i, hq, hi, hy, e⟩ := text_cut r l (j - (rowB r x).size) (by omega)
      refine ⟨q + 1, y, i, Nat.succ_le_succ hq, hi, hy.imp id (fun g => by simp [g]), ?_⟩
      rw [he, Nat.min_eq_right (by omega), extract_whole, e]
      show _ = rowB r x ++ textS r (l.take q) ++ _
      rw [ByteArray.append_assoc]
theorem text_take (r : Int) (l : List ByteArray) (q : Nat) : (textS r (l.take q)).size ≤ (textS r l).size := by
  have h := textS_append r (l.take q) (l.drop q)
  rw [List.take_append_drop] at h
  rw [h, ByteArray.size_append]
  omega
theorem row_prefix {w : World} {base n c q : Nat} {o : Option Addr} {xs : List Value} {e : TypeId} (h : w.ownsRow base e 1 (.slice o n c) n xs) (hq : q ≤ n) : w.ownsRow base e 1 (.slice o q c) q (xs.take q) := by
  rcases h.2 with ⟨e1, h0⟩ | ⟨g, cap, cur, e1, a, b, d, m, f, t⟩
  · injection e1 with e2 e3 e4
    subst e2
    subst e4
    obtain rfl : q = 0 := by omega
    exact ⟨by simp, .inl ⟨rfl, rfl⟩⟩
  · injection e1 with e2 e3 e4
    subst e2
    subst e4
    have hl := h.1
    refine ⟨by rw [List.length_take]; omega, .inr ⟨g, c, cur, rfl, a, b, Nat.le_trans hq d, m, f, ?_⟩⟩
    rw [← t, List.take_take]
    congr 1
    omega
theorem row_foot (N n : Nat) (v : Value) (e : TypeId) (size : Nat) (xs : List Value) : Foot (InV v) (fun w => w.ownsRow N e size v n xs) := ⟨fun w h k g => (h.lt k g).2, fun w w2 h hk => row_moved h hk⟩
theorem grown_keeps {w w5 : World} {o : Obj} {v : Value} (hg : (w.alloc o).grownBy w5 v.ownBlock) : KeepsF w w5 (InV v) :=
  ⟨hg.os, hg.tape, hg.output, by have := hg.size; simp at this; omega, fun k hk hn => (hg.block k (by simp; omega) (fun e => hn e.symm)).trans (Below.heap_alloc _ _ _ hk)⟩
theorem Trio.freshR {N : Nat} {w0 w w2 : World} {F G H H2 : Nat → Prop} {P Q R R2 : World → Prop} (h : Trio N w0 w F G H P Q R) (hb : Below w.heap.size w w2) (hr : R2 w2) (rf : Foot H2 R2) (hH : ∀ k, H2 k → w.heap.size ≤ k) : Trio N w0 w2 F G H2 P Q R2 := by
  have h2 := h.below hb
  exact ⟨h2.p, h2.q, hr, h2.pf, h2.qf, rf, h2.bel, h2.base, h2.fl, h2.gl, h2.fg, fun k f g => by have := h.pf.lt w h.p k f; have := hH k g; omega, fun k f g => by have := h.qf.lt w h.q k f; have := hH k g; omega⟩
theorem Trio.freshQ {N : Nat} {w0 w w2 : World} {F G H H2 : Nat → Prop} {P Q R R2 : World → Prop} (h : Trio N w0 w F G H P Q R) (hb : Below w.heap.size w w2) (hr : R2 w2) (rf : Foot H2 R2) (hH : ∀ k, H2 k → N ≤ k ∧ w.heap.size ≤ k) : Trio N w0 w2 F H2 H P R2 R := by
  have h2 := h.below hb
  exact ⟨h2.p, hr, h2.r, h2.pf, rf, h2.rf, h2.bel, h2.base, h2.fl, fun k g => (hH k g).1, fun k f g => by have := h.pf.lt w h.p k f; have := (hH k g).2; omega, h2.fh, fun k f g => by have := h.rf.lt w h.r k g; have := (hH k f).2; omega⟩
theorem cuts_start (w1 : World) :
    Trio w1.heap.size w1 (w1.alloc (.cells (cellsOf zero4 zero4 (.slice none 0 0)) 61))
      (InD w1.heap.size (.slice none 0 0)) (fun _ => False) (fun _ => False) (fun w => own.D w w1.heap.size (.slice none 0 0) ⟨zero4, zero4, []⟩) (fun _ => True) (fun _ => True) := by
  refine ⟨At.new w1, trivial, trivial, Kind.foot .., Foot.none, Foot.none, (Below.refl _ _).alloc (Nat.le_refl _) _, by simp, ?_, fun _ g => g.elim, fun _ _ g => g, fun _ _ g => g, fun _ _ g => g⟩
  rintro k (rfl | e)
  · exact Nat.le_refl _
  · rw [nil_own] at e; cases e
structure Only (st : St) (xs : List ByteArray) : Prop where
  sound : Sound xs.length st
  zero : st.n.at 0 = ⟨#[]⟩
  one : st.n.at 1 = textS 0 xs
  len : xs.length ≤ 20
  small : ∀ x ∈ xs, x.size ≤ 60
theorem Only.size {st : St} {xs : List ByteArray} (h : Only st xs) : (textS 0 xs).size ≤ 1640 := by
  have h1 := textS_size 0 xs (b := 60) h.small
  have h2 := h.len
  have : xs.length * (60 + 22) ≤ 20 * 82 := Nat.mul_le_mul h2 (Nat.le_refl _)
  omega
theorem Only.append {st : St} {xs : List ByteArray} (h : Only st xs) (hl : xs.length < 20) {x : ByteArray} (hx : x.size ≤ 60) : Only ⟨st.n.to 1 (st.n.at 1 ++ rowB 0 x), st.k, st.l ++ [⟨false, 1, rowB 0 x⟩]⟩ (xs ++ [x]) := by
  have hz := h.size
  have hr := (rowB_size 0 x).2
  have ha : appendS st.n 1 (rowB 0 x) = 0 := app_yes (by omega) (by rw [h.one]; omega)
  have hs := h.sound.append 1 (rowB 0 x)
  unfold appendT at hs
  rw [if_pos ha] at hs
  refine ⟨by rw [List.length_append]; exact hs, ?_, ?_, by rw [List.length_append]; show xs.length + 1 ≤ _; omega, ?_⟩
  · show (st.n.to 1 _).at 0 = _
    rw [at_to, if_neg (by omega)]
    exact h.zero
  · show (st.n.to 1 _).at 1 = _
    rw [at_to, if_pos (by omega), h.one, textS_snoc]
  · intro y hy
    rcases List.mem_append.1 hy with hy | hy
    · exact h.small y hy
    · simp at hy
      subst hy
      exact hx
theorem Only.zero4 : Only ⟨zero4, zero4, []⟩ [] := ⟨Sound.zero 0, rfl, rfl, Nat.zero_le _, fun x hx => by simp at hx⟩
theorem Only.cut {st : St} {xs : List ByteArray} (h : Only st xs) {j : Nat} (hj : j ≤ (textS 0 xs).size) : ∃ q, q ≤ xs.length ∧ Tells (st.n.to 1 ((textS 0 xs).extract 0 j)) ⟨0, ⟨#[]⟩, xs.take q, 0⟩ := by
  obtain ⟨q, x, i, hq, hi, hx, e⟩ := text_cut 0 xs j hj
  have hz := h.size
  refine ⟨q, hq, (show (0 : Int) ≤ 0 by decide), (show (0 : Int) ≤ 1099511000000 by decide), ?_, 0, xs.take q, x, i, by decide, by decide, (fun y hy => by have := h.small y (List.mem_of_mem_take hy); omega), ?_, hi, ?_, ?_, .inl ⟨rfl, rfl⟩⟩
  · rw [at_to, if_neg (by omega), h.zero]
    exact head_none
  · rcases hx with rfl | hx
    · decide
    · have := h.small x hx
      omega
  · rw [at_to, if_pos (by omega)]
    exact e
  · rw [at_to, if_pos (by omega), ByteArray.size_extract]
    omega
theorem strs_cell {w w2 : World} {x : Addr} {zs : List ByteArray} {i : Nat} (hc : ∀ i, i < zs.length → w.cell? (x.add i) = some (.string (zs.getD i ByteArray.empty))) (hi : i < zs.length) (hb : Below w.heap.size w w2) : w2.cell? (x.add i) = some (.string (zs.getD i ByteArray.empty)) :=
  low_cell (Nat.le_refl _) hb (hc i hi)
theorem map_snoc (xs : List ByteArray) (x : ByteArray) : xs.map Value.string ++ [.string x] = (xs ++ [x]).map Value.string := by simp
set_option maxHeartbeats 8000000 in
set_option maxRecDepth 100000 in
theorem WalCuts_walk (a0 : Option Addr) (len0 cap0 : Nat) (zs : List ByteArray) (a1 : Int) (w : World) (w0 : SR.IsStrs w a0 len0 cap0 zs) (_y0 : len0 * 16 ≤ 140737488351232) :
    Calls Try.prog 4 #[.slice a0 len0 cap0, .int .i64 a1] w fun e w' => e = .returned (.bool true) ∧ Below w.heap.size w w' := by
  have h1 := cuts_start w
  obtain ⟨i0, hi54, hz54⟩ := Option.map_eq_some_iff.1 infoS
  simp only [Prod.mk.injEq] at hz54
  obtain ⟨hz0, hz1', hz2⟩ := hz54
  obtain ⟨y, hy, hyl⟩ := and_mask a1 (c := 65535) (by decide)
  rw [show ((65535 : Nat) : Int) = 65535 from rfl] at hy
  go_enter Try.func4, Try.ntmps4
  go_wp2_with (first
    | (go_at_call 9; (with_reducible refine (new_walk _).mono ?_); rintro e w2 ⟨rfl, rfl⟩)
    | (go_at_call 10; (with_reducible refine (open_zero h1.dsk).mono ?_); rintro e w3 ⟨L, rfl, ho⟩
       obtain ⟨W3, V3, h3⟩ := h1.opened ho
       clear ho h1))
  have h4 := h3.freshQ (R2 := fun w' => w'.ownsRow w.heap.size 9 1 (.slice (some ⟨w3.heap.size, 0, none⟩) 0 0) ([] : List ByteArray).length (([] : List ByteArray).map Value.string)) ((Below.refl w3.heap.size w3).alloc (Nat.le_refl _) (.cells #[] 9)) (World.ownsRow_lit (base := w.heap.size) (e := 9) (size := 1) w3 #[] 0 h3.base (by decide) rfl) (row_foot ..) (fun k g => by
    have g2 : some w3.heap.size = some k := g
    injection g2 with g3
    have := h3.base
    omega)
  have HF := Lib.hid (wfixed_walk)
  have HY := Lib.hid hy
  clear hy h3
  go_loopw [8, 9] (fun v8 v9 wr => ∃ (i : Nat) (o : Option Addr) (n c : Nat) (W V : Value) (st : St) (xs : List ByteArray), v9 = .int .i64 i ∧ v8 = .slice o n c ∧ i ≤ len0 ∧ i ≤ 20 ∧ xs.length = i ∧
    Trio w.heap.size w wr (InF w.heap.size W L V) (InV (.slice o n c)) (fun _ => False) (fun w' => PL own LT w' w.heap.size W L V st ⟨0, ⟨#[]⟩, xs, 0⟩) (fun w' => w'.ownsRow w.heap.size 9 1 (.slice o n c) xs.length (xs.map Value.string)) (fun _ => True) ∧ Only st xs) (fun _ i _ => 20 - (intOf i).toNat)
  case atStart => exact ⟨0, _, _, _, _, _, _, [], rfl, rfl, Nat.zero_le _, Nat.zero_le _, rfl, h4, Only.zero4⟩
  case round =>
    obtain ⟨i, o, n, c, W, V, st, xs, rfl, rfl, hi, hi2, hxl, h5, honly⟩ := hrel
    clear h4
    have hbel := h5.bel
    have hN : w.heap.size ≤ wr.heap.size := h5.base
    have hnum : n = xs.length := by
      rcases h5.q.2 with ⟨e, h0⟩ | ⟨g, cap, cur, e, _⟩
      · injection e with _ e2 _
        omega
      · injection e with _ e2 _
    by_cases hgo : i < len0 ∧ i < 20
    · obtain ⟨hlt, hlt2⟩ := hgo
      rcases w0 with ⟨rfl, h0, _⟩ | ⟨x, rfl, hl, hm, hz, hc, hs⟩
      · omega
      have c0 := strs_cell (i := i) hc (by omega) hbel
      have hsx := hs _ (List.getElem_mem (show i < zs.length by omega))
      have hgd : zs.getD i ByteArray.empty = zs[i]'(by omega) := by rw [List.getD_eq_getElem?_getD, List.getElem?_eq_getElem (by omega)]; rfl
      rw [hgd] at c0
      generalize zs[i]'(by omega) = s at *
      unfold maxLen at hsx hm
      obtain ⟨j, hj, hj0, hj1, hj2⟩ := cut60 s
      have hcut : (s.extract 0 j.toNat).size ≤ 60 := by rw [ByteArray.size_extract]; omega
      generalize hS : s.extract 0 j.toNat = S at *
      have HO := Lib.hid honly
      have HX := Lib.hid hxl
      have hx20 : xs.length < 20 := by omega
      have hrz := (rowB_size 0 S).2
      have h1z := HO.out.size
      clear hc hs hgd honly hxl hnum
      go_upto_region 9 with fail
      go_region
      have h5d := h5.drew
      go_wp2_with (first
        | (at_builtin; refine wpList_append_own_at _ rfl (.tmp 51) (.tmp 53) 30 rfl w.heap.size 9 i0 (.string ⟨#[]⟩) 1 16 underSS hi54 hz0 hz1' hz2 rfl (by decide) (.slice o n c) xs.length (xs.map Value.string) rfl (show ((wr.alloc (.cells #[.string S] 9)).drew).ownsRow _ _ _ _ _ _ from h5d.q.alloc (.cells #[.string S] 9)) ⟨wr.heap.size, 0, none⟩ 1 1 [.string S] rfl rfl (cell_one_new wr.drew (.string S) 9) (by simp [Value.oneCell']) (by simp only [maxLen]; omega) (by omega) (by simp; omega) ?_
           intro v w5 hown hg _ hat
           obtain ⟨vg, vcap, rfl, _⟩ := hown.form (by omega)
           have h6 := h5d.stepQ (F2 := InV (.slice (some ⟨vg, 0, none⟩) (xs.length + 1) vcap)) (P2 := fun w' => w'.ownsRow w.heap.size 9 1 (.slice (some ⟨vg, 0, none⟩) (xs.length + 1) vcap) (xs ++ [S]).length ((xs ++ [S]).map Value.string)) (grown_keeps (show (wr.drew.alloc (.cells #[.string S] 9)).grownBy w5 _ from hg)) (by rw [List.length_append, ← map_snoc]; exact hown) (row_foot ..) (fun k g => by
             rcases hat with e | e
             · exact .inl (by unfold InV at *; rw [← e]; exact g)
             · right
               unfold InV at g
               rw [e] at g
               show wr.heap.size ≤ k
               have g2 : wr.heap.size + 1 = k := by simpa using g
               omega)
           have hap := lappend_ok h6.pl HO.out.sound (by omega) (show (0 : Int) ≤ 0 by decide) (show (0 : Int) ≤ 1099511000000 by decide) (by show xs.length ≤ _; omega) S (by omega) (by rw [HO.out.one]; show (textS 0 xs).size + (rowB 0 S).size ≤ _; omega)
           clear hown hg hat)
        | (go_at_call 12; (with_reducible refine hap.mono ?_); rintro e w7 ⟨rfl, hst⟩
           obtain ⟨W7, V7, h7⟩ := h6.step hst
           clear hst))
      go_roundw
      case rel => exact ⟨i + 1, _, _, _, W7, V7, _, xs ++ [S], by go_num, rfl, by omega, by omega, by rw [List.length_append, HX.out]; rfl, h7, HO.out.append (by omega) hcut⟩
      case measure => simp [intOf]; omega
    · have hx : i < len0 ∧ ¬ i < 20 ∨ ¬ i < len0 := by
        by_cases h : i < len0
        · exact .inl ⟨h, fun g => hgo ⟨h, g⟩⟩
        · exact .inr h
      have hts := honly.size
      have hxs : xs.length ≤ 20 := honly.len
      obtain ⟨jj, hjj, hjl⟩ := tmod_in (x := y) (n := (textS 0 xs).size + 1) (by omega)
      obtain ⟨q, hq, htell⟩ := honly.cut (j := jj) (by omega)
      have hrd := read_walk h5.pdsk 1
      rw [honly.one] at hrd
      have htk := text_take 0 xs q
      have htq : (xs.take q).length = q := by rw [List.length_take]; omega
      have hcs : ((textS 0 xs).extract 0 jj).size ≤ 65536 := by rw [ByteArray.size_extract]; omega
      have hsl := honly.sound.len
      have hrp := replace_walk h5.toD.dsk (by show st.l.length ≤ _; omega) 1 ((textS 0 xs).extract 0 jj) (by omega)
      have hrq := fun w2 hq => replace_puts (st := st) (w2 := w2) (i := 1) (s := (textS 0 xs).extract 0 jj) h5.toD.dsk hq
      have hrt : replaceT st 1 ((textS 0 xs).extract 0 jj) = ⟨st.n.to 1 ((textS 0 xs).extract 0 jj), st.k, st.l ++ [⟨true, 1, (textS 0 xs).extract 0 jj⟩]⟩ := by unfold replaceT; rw [if_pos (rep_yes (by omega) hcs)]
      have hsd := honly.sound.replace 1 ((textS 0 xs).extract 0 jj)
      have h5D := h5.toD
      generalize hT : textS 0 xs = T at *
      generalize hC : T.extract 0 jj = C at *
      clear hgo honly w0 hT
      subst hnum
      have hy := HY.out
      have hjj2 : Int.tmod (y : Int) ((T.size : Int) + 1) = (jj : Int) := by simpa using hjj
      have hjt : jj ≤ T.size := by omega
      have hn2 : (replaceT st 1 C).n = st.n.to 1 C := by rw [hrt]
      clear hjj hrt
      generalize replaceT st 1 C = st2 at *
      rw [← hn2] at htell
      have HTL := Lib.hid htell
      have HSD := Lib.hid hsd
      have hF2 : ∀ i, ((st2.n.to 1 (textS 0 (xs.take q))).at i).size ≤ 65536 := to_size hsd.now_le (by omega)
      have hS2 := Lib.hid (Sound.sure 0 hF2)
      have hag := htell.again (u := 0)
      have HAG := Lib.hid hag.1
      have ha1 : ((st2.n.to 1 (textS 0 (xs.take q))).to 1 (textS 0 (xs.take q))).at 1 = textS 0 (xs.take q) := by rw [at_to, if_pos (by omega)]
      have HA1 := Lib.hid ha1
      have hqn : ¬ xs.length < q := by omega
      have hcc : xs.length ≤ c ∧ c ≤ maxLen := by
        rcases h5.q.2 with ⟨e, h0⟩ | ⟨g, cap, cur, e, _, _, h1, h2, _⟩
        · injection e with _ e2 e3
          subst e3
          exact ⟨by omega, by decide⟩
        · injection e with _ e2 e3
          subst e3
          exact ⟨h1, h2⟩
      unfold maxLen at hcc
      have hqc : q ≤ c := by omega
      have hcm : c ≤ 9223372036854775807 := hcc.2
      clear hcc
      clear htell hsd hF2 hag hn2 ha1
      rcases hx with ⟨hlt, hlt2⟩ | hlt
      all_goals
        go_wp2_with (first
          | (go_at_call 21; (with_reducible refine hrd.mono ?_); rintro e w6 ⟨rfl, rfl⟩)
          | (go_at_call 22; (with_reducible refine hrp.mono ?_); rintro e w7 ⟨rfl, hq7⟩
             obtain ⟨W7, hD, hk, hW⟩ := hrq _ hq7
             have h7 := h5D.disk (st2 := st2) hD hk hW
             have hop := open_ok h7.dsk HSD.out (by omega) HTL.out
             clear hq7 hD hk hW)
          | (go_at_call 10; (with_reducible refine hop.mono ?_); rintro e w8 ⟨M, rfl, ho⟩
             obtain ⟨W8, V8, h8⟩ := h7.opened ho
             have hrc := records_walk h8.pl.log (by show (xs.take q).length ≤ _; omega)
             simp only [htq] at hrc
             clear ho hop)
          | (go_at_call 14; (with_reducible refine hrc.mono ?_); rintro e w9 ⟨xo, xc, rfl, hrow9, hb9⟩
             have h9 := h8.freshR (R2 := fun w' => w'.ownsRow w8.heap.size 9 1 (.slice xo q xc) q ((xs.take q).map Value.string)) hb9 hrow9 (row_foot ..) (fun k g => (hrow9.lt k g).1)
             have hs9 := same_lit (n := q) (xs.take q) _ htq rfl h9.r (by rw [List.map_take]; exact row_prefix h9.q hq) (by omega)
             clear hb9 hrow9 hrc)
          | (go_at_call 18; (with_reducible refine hs9.mono ?_); rintro e w10 ⟨rfl, hb10⟩
             have h10 := h9.below hb10
             have h10D := h10.toD
             have hop := open_ok (st := ⟨st2.n.to 1 (textS 0 (xs.take q)), st2.n.to 1 (textS 0 (xs.take q)), []⟩) h10D.dsk hS2.out (by decide) HAG.out
             clear hb10 hs9)
          | (go_at_call 10; (with_reducible refine hop.mono ?_); rintro e w11 ⟨M2, rfl, ho⟩
             obtain ⟨W11, V11, h11⟩ := h10D.opened ho
             have hrc := records_walk h11.pl.log (by show (xs.take q).length ≤ _; omega)
             simp only [htq] at hrc
             clear ho hop)
          | (go_at_call 14; (with_reducible refine hrc.mono ?_); rintro e w12 ⟨xo2, xc2, rfl, hrow12, hb12⟩
             have h12 := h11.below hb12
             have hs12 := same_lit (n := q) (xs.take q) _ htq rfl hrow12 h12.r (by omega)
             clear hb12 hrow12 hrc)
          | (go_at_call 18; (with_reducible refine hs12.mono ?_); rintro e w13 ⟨rfl, hb13⟩
             have h13 := h12.below hb13
             have hrd2 := read_walk h13.pdsk 1
             simp only [HA1.out] at hrd2
             clear hb13 hs12)
          | (go_at_call 21; (with_reducible refine hrd2.mono ?_); rintro e w14 ⟨rfl, rfl⟩)
          | (go_at_call 20; (with_reducible refine (HF.out _).mono ?_); rintro e w15 ⟨rfl, hb15⟩
             have h15 := h13.below hb15
             clear hb15))
        go_returns
        exact ⟨rfl, h15.bel⟩
end Go.Proofs.Ytkiepnmbimkadaa.WL
namespace Go.Proofs.Ytkiepnmbimkadaa.VF
open Go.RowKit
theorem WalCuts_walk (a0 : Option Addr) (len0 cap0 : Nat) (zs : List ByteArray) (a1 : Int) (w : World) (w0 : SR.IsStrs w a0 len0 cap0 zs) (y0 : len0 * 16 ≤ 140737488351232) :
    Calls Try.prog 4 #[.slice a0 len0 cap0, .int .i64 a1] w fun e w' => e = .returned (.bool true) ∧ Below w.heap.size w w' := WL.WalCuts_walk a0 len0 cap0 zs a1 w w0 y0
end Go.Proofs.Ytkiepnmbimkadaa.VF
