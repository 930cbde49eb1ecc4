import Derived.ArgAppend
import Derived.Deep.RegionHeld3
import Derived.Test.YtkiepnmbimkadaaKRecovers34
namespace Go.Proofs.Ytkiepnmbimkadaa.WL
open Go.RowKit Go.Proofs.Ytkiepnmbimkadaa Go.Proofs.Ytkiepnmbimkadaa.DK Go.Proofs.Ytkiepnmbimkadaa.Pr Go.Proofs.Ytkiepnmbimkadaa.VP Go.Proofs.Ytkiepnmbimkadaa.VF Go.Proofs.Ytkiepnmbimkadaa.CF Go.Proofs.Ytkiepnmbimkadaa.WF
theorem state_walk {w : World} {L A : Nat} {V : Value} {s : LSt} (h : LAt 65 w L A V s) : Calls Try.prog 13 #[.pointer (some ⟨L, 0, none⟩)] w fun e w2 => e = .returned (.string s.state) ∧ w = w2 := by
  have c2 : w.cell? ⟨L, 2, none⟩ = some (.string s.state) := h.cell 2
  clear h
  go_enter Try.func13, Try.ntmps13
  go_wp2
  go_returns
  exact ⟨rfl, rfl⟩
theorem round_walk {w : World} {L A : Nat} {V : Value} {s : LSt} (h : LAt 65 w L A V s) : Calls Try.prog 23 #[.pointer (some ⟨L, 0, none⟩)] w fun e w2 => e = .returned (.int .i64 s.round) ∧ w = w2 := by
  have c2 : w.cell? ⟨L, 1, none⟩ = some (.int .i64 s.round) := h.cell 1
  clear h
  go_enter Try.func23, Try.ntmps23
  go_wp2
  go_returns
  exact ⟨rfl, rfl⟩
theorem sure_walk {w : World} {L A : Nat} {V : Value} {s : LSt} (h : LAt 65 w L A V s) : Calls Try.prog 19 #[.pointer (some ⟨L, 0, none⟩)] w fun e w2 => e = .returned (.int .i64 s.sure) ∧ w = w2 := by
  have c2 : w.cell? ⟨L, 4, none⟩ = some (.int .i64 s.sure) := h.cell 4
  clear h
  go_enter Try.func19, Try.ntmps19
  go_wp2
  go_returns
  exact ⟨rfl, rfl⟩
theorem infoS : (Try.prog.info? 9).map (fun i => (i.zero, i.size, i.bytes)) = some (some (.string ⟨#[]⟩), 1, 16) := by kernel_rfl
theorem underSS : Try.prog.underlying 30 = some (.slice 9) := by kernel_rfl
theorem strs_one (l : List ByteArray) : ∀ u ∈ l.map Value.string, u.oneCell' = true := by
  intro u hu
  obtain ⟨x, _, rfl⟩ := List.mem_map.1 hu
  rfl
theorem row_form {w : World} {V : Value} {l : List ByteArray} (h : w.ownsRow 0 9 1 V l.length (l.map Value.string)) : V = .slice none 0 0 ∧ l = [] ∨ ∃ g cap, V = .slice (some ⟨g, 0, none⟩) l.length cap ∧ l.length ≤ cap ∧ cap ≤ maxLen ∧ g < w.heap.size ∧ ∀ (j : Nat) (u : Value), (l.map Value.string)[j]? = some u → w.cell? ⟨g, j, none⟩ = some u := by
  rcases h.2 with ⟨rfl, hn⟩ | ⟨g, cap, cur, rfl, _, hg, hc, hm, _⟩
  · exact .inl ⟨rfl, List.eq_nil_of_length_eq_zero hn⟩
  · refine .inr ⟨g, cap, rfl, hc, hm, (Array.getElem?_eq_some_iff.1 hg).1, fun j u hu => ?_⟩
    have hj : j < l.length := by
      have := (List.getElem?_eq_some_iff.1 hu).1
      rwa [List.length_map] at this
    rw [h.cellAt j (by omega), hu]
set_option maxHeartbeats 2000000 in
theorem clones_walk {w : World} {V : Value} {l : List ByteArray} (h : w.ownsRow 0 9 1 V l.length (l.map Value.string)) (hl : l.length ≤ 1000000) :
    Calls Try.prog 39 #[V] w fun e w2 => ∃ o c, e = .returned (.slice o l.length c) ∧ w2.ownsRow w.heap.size 9 1 (.slice o l.length c) l.length (l.map Value.string) ∧ Below w.heap.size w w2 := by
  rcases row_form h with ⟨rfl, rfl⟩ | ⟨g, cap, rfl, hcap, hmax, hg, hc⟩
  · have hb : ∀ w : World, (binOp .eql 30 (.slice none 0 0) (.slice none 0 0)).run Try.prog w = .ok (.bool true) w := fun _ => by kernel_rfl
    clear h
    go_enter Try.func39, Try.ntmps39
    go_wp2
    go_returns
    exact ⟨_, _, rfl, World.ownsRow_nil _ _ _ _, Below.refl _ _⟩
  · obtain ⟨i0, hi54, hz54⟩ := Option.map_eq_some_iff.1 infoS
    simp only [Prod.mk.injEq] at hz54
    obtain ⟨hz0, hz1, hz2⟩ := hz54
    have hnew := fun j u (hu : (l.map Value.string)[j]? = some u) => (h.alloc (.cells #[] 9)).cells (g := g) rfl j u hu
    have hown0 := World.ownsRow_lit (base := w.heap.size) (e := 9) (size := 1) w #[] 0 (Nat.le_refl _) (by decide) rfl
    have h1 := strs_one l
    have hb : ∀ w : World, (binOp .eql 30 (.slice (some ⟨g, 0, none⟩) l.length cap) (.slice none 0 0)).run Try.prog w = .ok (.bool false) w := fun _ => by kernel_rfl
    clear h hc
    go_enter Try.func39, Try.ntmps39
    go_wp2_with (first | (at_builtin; refine wpList_append_own_at _ rfl (.tmp 5) (.tmp 6) 30 rfl w.heap.size 9 i0 (.string ⟨#[]⟩) 1 16 underSS hi54 hz0 hz1 hz2 rfl (by decide) (.slice (some ⟨w.heap.size, 0, none⟩) 0 0) 0 [] rfl hown0 ⟨g, 0, none⟩ l.length cap (l.map Value.string) rfl (by simp) hnew h1 (by simp only [maxLen]; omega) (by omega) (by simp) ?_; intro v w5 hown hgr _ hat; obtain ⟨vo, vc, rfl⟩ := own_form hown; simp only [Nat.zero_add, List.nil_append] at hown hat))
    go_returns
    have hbel := ((Below.refl w.heap.size w).alloc (Nat.le_refl _) (.cells #[] 9)).grown (row := some w.heap.size) hgr (by simp) (by intro k hk; simp at hk; omega)
    exact ⟨vo, vc, by simp, hown, hbel⟩
theorem records_walk {w : World} {L A : Nat} {V : Value} {s : LSt} (h : LAt 65 w L A V s) (hl : s.l.length ≤ 1000000) : Calls Try.prog 14 #[.pointer (some ⟨L, 0, none⟩)] w fun e w2 =>
    ∃ o c, e = .returned (.slice o s.l.length c) ∧ w2.ownsRow w.heap.size 9 1 (.slice o s.l.length c) s.l.length (s.l.map Value.string) ∧ Below w.heap.size w w2 := by
  have c2 : w.cell? ⟨L, 3, none⟩ = some V := h.cell 3
  have hc := clones_walk h.row hl
  clear h
  go_enter Try.func14, Try.ntmps14
  go_wp2_with (first | (go_at_call 39; (with_reducible refine hc.mono ?_); rintro e w2 ⟨o, c, rfl, h1, h2⟩))
  go_returns
  exact ⟨o, c, rfl, h1, h2⟩
theorem PL.ofs {K : Kind} {T : TypeId} {w w2 : World} {A : Nat} {W W2 : Value} {L : Nat} {V : Value} {st st2 : St} {s : LSt} (h : PL K T w A W L V st s) (hD : K.D w2 A W2 st2) (hk : Keeps w w2 A W) (hW : W2.ownBlock = W.ownBlock ∨ ∀ b, W2.ownBlock = some b → w.heap.size ≤ b) : PL K T w2 A W2 L V st2 s :=
  have hL := h.log.lt
  have hV := fun b e => (h.log.row.lt b e).2
  ⟨hD, h.log.moved (hk.block L hL h.off.a h.off.c) (fun k e => hk.block k (hV k e) (fun ha => h.off.b (by rw [e, ha])) (fun hw => h.off.d k e hw)),
   ⟨h.off.a, h.off.b, (fun e => by
     rcases hW with g | g
     · rw [g] at e; exact h.off.c e
     · have := g _ e; omega), fun b e1 e2 => by
     rcases hW with g | g
     · rw [g] at e2; exact h.off.d b e1 e2
     · have := g _ e2; have := hV _ e1; omega⟩⟩
def Mid (K : Kind) (T : TypeId) (w w1 : World) (A : Nat) (W : Value) (L : Nat) (V W1 V1 : Value) (st : St) (s : LSt) : Prop :=
  PL K T w1 A W1 L V1 st s ∧ KeepsF w w1 (InF A W L V) ∧ ∀ k, InF A W1 L V1 k → InF A W L V k ∨ w.heap.size ≤ k
theorem Mid.pl {K : Kind} {T : TypeId} {w w1 : World} {A : Nat} {W : Value} {L : Nat} {V W1 V1 : Value} {st : St} {s : LSt} (h : Mid K T w w1 A W L V W1 V1 st s) : PL K T w1 A W1 L V1 st s := h.1
theorem Mid.dsk {T : TypeId} {w w1 : World} {A : Nat} {W : Value} {L : Nat} {V W1 V1 : Value} {st : St} {s : LSt} (h : Mid own T w w1 A W L V W1 V1 st s) : At w1 A W1 st.n st.k st.l := h.1.disk
theorem Mid.step {K : Kind} {T : TypeId} {w w1 : World} {A : Nat} {W : Value} {L : Nat} {V W1 V1 : Value} {st : St} {s : LSt} (h : Mid K T w w1 A W L V W1 V1 st s) : Step K T w w1 A W L V st s := ⟨W1, V1, h⟩
theorem Mid.then_ {K : Kind} {T : TypeId} {w w1 w2 : World} {A : Nat} {W : Value} {L : Nat} {V W1 V1 : Value} {st st2 : St} {s s2 : LSt} (h : Mid K T w w1 A W L V W1 V1 st s) (h2 : Step K T w1 w2 A W1 L V1 st2 s2) : Step K T w w2 A W L V st2 s2 := Step.then_ h.1 h.2.1 h.2.2 h2
theorem Mid.to {K : Kind} {T : TypeId} {w w1 w2 : World} {A : Nat} {W : Value} {L : Nat} {V W1 V1 W2 V2 : Value} {st st2 : St} {s s2 : LSt} (h : Mid K T w w1 A W L V W1 V1 st s) (h2 : Mid K T w1 w2 A W1 L V1 W2 V2 st2 s2) : Mid K T w w2 A W L V W2 V2 st2 s2 := by
  refine ⟨h2.1, h.2.1.trans h2.2.1 (fun k hk g => ?_), fun k g => ?_⟩
  · rcases h.2.2 k g with e | e
    · exact e
    · omega
  · rcases h2.2.2 k g with e | e
    · exact h.2.2 k e
    · exact .inr (Nat.le_trans h.2.1.size e)
theorem Mid.refl {K : Kind} {T : TypeId} {w : World} {A : Nat} {W : Value} {L : Nat} {V : Value} {st : St} {s : LSt} (h : PL K T w A W L V st s) : Mid K T w w A W L V W V st s := ⟨h, KeepsF.refl _ _, fun _ g => .inl g⟩
theorem Mid.below {K : Kind} {T : TypeId} {w w1 w2 : World} {A : Nat} {W : Value} {L : Nat} {V W1 V1 : Value} {st : St} {s : LSt} (h : Mid K T w w1 A W L V W1 V1 st s) (hb : Below w1.heap.size w1 w2) : Mid K T w w2 A W L V W1 V1 st s := ⟨h.1.below hb, h.2.1.below hb, h.2.2⟩
theorem Mid.drew {K : Kind} {T : TypeId} {w w1 : World} {A : Nat} {W : Value} {L : Nat} {V W1 V1 : Value} {st : St} {s : LSt} (h : Mid K T w w1 A W L V W1 V1 st s) : Mid K T w w1.drew A W L V W1 V1 st s := h.below (Below.refl _ _).drew
theorem Mid.disk {K : Kind} {T : TypeId} {w w2 : World} {A : Nat} {W W2 : Value} {L : Nat} {V : Value} {st st2 : St} {s : LSt} (h : PL K T w A W L V st s) (hD : K.D w2 A W2 st2) (hk : Keeps w w2 A W) (hW : W2.ownBlock = W.ownBlock ∨ ∀ b, W2.ownBlock = some b → w.heap.size ≤ b) : Mid K T w w2 A W L V W2 V st2 s :=
  ⟨h.ofs hD hk hW, KeepsF.of_keeps hk (.inl rfl) (fun k e => .inr (.inl e)), fun k g => by
    rcases g with g | g | g | g
    · exact .inl (.inl g)
    · rcases hW with e | e
      · rw [e] at g; exact .inl (.inr (.inl g))
      · exact .inr (e k g)
    · exact .inl (.inr (.inr (.inl g)))
    · exact .inl (.inr (.inr (.inr g)))⟩
theorem PL.stored {K : Kind} {T : TypeId} {w w2 : World} {A : Nat} {W : Value} {L : Nat} {V V2 : Value} {st : St} {s s2 : LSt} (h : PL K T w A W L V st s) (hK : KeepsF w w2 (fun k => k = L)) (hc : w2.heap[L]? = some (.cells (lcells A s2 V2) T (0, 0))) (hr : w2.ownsRow 0 9 1 V2 s2.l.length (s2.l.map Value.string))
    (hV : V2.ownBlock = V.ownBlock ∨ ∀ b, V2.ownBlock = some b → w.heap.size ≤ b) : Mid K T w w2 A W L V W V2 st s2 := by
  have hA := K.lt h.disk
  have hL := h.log.lt
  have hW := K.row h.disk
  have hoff : Off L V2 A W := ⟨h.off.a, (fun e => by
    rcases hV with g | g
    · rw [g] at e; exact h.off.b e
    · have := g _ e; omega), h.off.c, fun b e1 e2 => by
    rcases hV with g | g
    · rw [g] at e1; exact h.off.d b e1 e2
    · have := g _ e1; have := hW _ e2; omega⟩
  refine ⟨⟨K.moved h.disk (hK.block A hA (fun e => h.off.a e.symm)) (fun k e => hK.block k (hW k e) (fun g => h.off.c (by rw [e, g]))), ⟨hc, hr, fun e => ?_⟩, hoff⟩, hK.mono (fun k _ g => .inr (.inr (.inl g))), fun k g => ?_⟩
  · rcases hV with g | g
    · rw [g] at e; exact h.log.apart e
    · have := g _ e; omega
  · rcases g with g | g | g | g
    · exact .inl (.inl g)
    · exact .inl (.inr (.inl g))
    · exact .inl (.inr (.inr (.inl g)))
    · rcases hV with e | e
      · rw [e] at g; exact .inl (.inr (.inr (.inr g)))
      · exact .inr (e k g)
theorem row_base {w : World} {base base2 e size n : Nat} {V : Value} {xs : List Value} (h : w.ownsRow base e size V n xs) (hb : base2 ≤ base) : w.ownsRow base2 e size V n xs := by
  refine ⟨h.1, ?_⟩
  rcases h.2 with g | ⟨g, cap, cur, e, a, b⟩
  · exact .inl g
  · exact .inr ⟨g, cap, cur, e, Nat.le_trans hb a, b⟩
theorem PL.appended {K : Kind} {T : TypeId} {w w5 : World} {A : Nat} {W : Value} {L : Nat} {V v : Value} {st : St} {s : LSt} {x : ByteArray} {base : Nat} (h : PL K T w A W L V st s) (hb5 : Below w.heap.size w w5) (hown : w5.ownsRow base 9 1 v (s.l.length + 1) (s.l.map Value.string ++ [.string x])) (hbase : w.heap.size ≤ base) :
    Mid K T w (w5.setCell ⟨L, 3, none⟩ v) A W L V W v st ⟨s.round, s.state, s.l ++ [x], s.sure⟩ := by
  have hL := h.log.lt
  have hv := fun b e => (hown.lt b e).1
  refine h.stored ((KeepsF.of_below hb5 (fun k => k = L)).setCell (.inl rfl) 3 v) ((set_self ((hb5.block L hL).trans h.log.cells)).trans (by simp [lcells])) ?_ (.inr fun b e => Nat.le_trans hbase (hv b e))
  rw [List.length_append, List.map_append]
  exact row_moved (row_base hown (Nat.zero_le _)) (fun k e => Below.heap_setCell _ _ _ _ (fun g => by have := hv k e; have g2 : k = L := g; omega))
def LSt.synced (s : LSt) : LSt := ⟨s.round, s.state, s.l, s.l.length⟩
def synced (st : St) : St := ⟨st.n, st.n, []⟩
set_option maxHeartbeats 2000000 in
theorem lsync_walk {w : World} {A : Nat} {W : Value} {L : Nat} {V : Value} {st : St} {s : LSt} (h : PL own 65 w A W L V st s) (hl : s.l.length ≤ 1000000) : Calls Try.prog 16 #[.pointer (some ⟨L, 0, none⟩)] w fun e w2 =>
    e = .returned (.tuple #[]) ∧ Step own 65 w w2 A W L V (synced st) s.synced := by
  have c0 : w.cell? ⟨L, 0, none⟩ = some (.pointer (some ⟨A, 0, none⟩)) := h.log.cell 0
  have hsy := sync_walk (show At w A W st.n st.k st.l from h.disk)
  obtain ⟨vo, vc, rfl⟩ := own_form h.log.row
  go_enter Try.func16, Try.ntmps16
  go_wp2_with (first | (go_at_call 40; (with_reducible refine hsy.mono ?_); rintro e w2 ⟨rfl, hq, hk⟩
                        have hm := Mid.disk (st2 := synced st) (W2 := .slice none 0 0) h hq hk (.inr fun b e => by rw [nil_own] at e; cases e)
                        have d3 : w2.cell? ⟨L, 3, none⟩ = some (.slice vo s.l.length vc) := hm.1.log.cell 3
                        have d4 : w2.cell? ⟨L, 4, none⟩ = some (.int .i64 s.sure) := hm.1.log.cell 4
                        have f4 : w2.frozen? ⟨L, 4, none⟩ = false := hm.1.log.frozen 4
                        clear hq hk))
  go_returns
  exact ⟨rfl, (hm.to (hm.1.stored (s2 := s.synced) (V2 := .slice vo s.l.length vc) ((KeepsF.refl _ _).setCell (F := fun k => k = L) (.inl rfl) _ _) ((set_self hm.1.log.cells).trans (by simp [lcells, LSt.synced])) (hm.1.log.row.kept (row := some L) ⟨rfl, rfl, rfl, by simp [World.setCell], fun j _ hj => Below.heap_setCell _ _ _ _ (fun e => hj (by rw [e]))⟩ (.inr hm.1.log.apart)) (.inl rfl))).step⟩
def appA (st : St) (s : LSt) (x : ByteArray) : Int := if x.size > 1024 then 2 else appendS st.n 1 (rowB s.round x)
def appT (st : St) (s : LSt) (x : ByteArray) : St := if x.size > 1024 then st else appendT st 1 (rowB s.round x)
def appL (st : St) (s : LSt) (x : ByteArray) : LSt := if x.size > 1024 then s else if appendS st.n 1 (rowB s.round x) = 0 then ⟨s.round, s.state, s.l ++ [x], s.sure⟩ else s
set_option maxHeartbeats 2000000 in
theorem lappend_walk {w : World} {A : Nat} {W : Value} {L : Nat} {V : Value} {st : St} {s : LSt} (h : PL own 65 w A W L V st s) {b : Nat} (hs : Sound b st) (hb : b ≤ 1000) (hr0 : 0 ≤ s.round) (hr1 : s.round ≤ 2199023255552) (hl : s.l.length ≤ 100000) (x : ByteArray) (hx : x.size ≤ 1000000) :
    Calls Try.prog 12 #[.pointer (some ⟨L, 0, none⟩), .string x] w fun e w2 => e = .returned (.int .i64 (appA st s x)) ∧ Step own 65 w w2 A W L V (appT st s x) (appL st s x) := by
  have c0 : w.cell? ⟨L, 0, none⟩ = some (.pointer (some ⟨A, 0, none⟩)) := h.log.cell 0
  have c1 : w.cell? ⟨L, 1, none⟩ = some (.int .i64 s.round) := h.log.cell 1
  have hlen := hs.len
  by_cases hbig : x.size > 1024
  · have e1 : appA st s x = 2 := by unfold appA; rw [if_pos hbig]
    have e2 : appT st s x = st := by unfold appT; rw [if_pos hbig]
    have e3 : appL st s x = s := by unfold appL; rw [if_pos hbig]
    rw [e1, e2, e3]
    have hbig2 : (1024 : Int) < x.size := by omega
    have hfin := Step.same h (Below.refl _ _)
    clear h c0 c1 e1 e2 e3
    go_enter Try.func12, Try.ntmps12
    go_wp2
    go_returns
    exact ⟨rfl, hfin⟩
  · have e1 : appA st s x = appendS st.n 1 (rowB s.round x) := by unfold appA; rw [if_neg hbig]
    have e2 : appT st s x = appendT st 1 (rowB s.round x) := by unfold appT; rw [if_neg hbig]
    have e3 : appL st s x = if appendS st.n 1 (rowB s.round x) = 0 then ⟨s.round, s.state, s.l ++ [x], s.sure⟩ else s := by unfold appL; rw [if_neg hbig]
    rw [e1, e2, e3]
    have hrow := fun w => wal_row.calls 20 s.round x (rowB s.round x) w (row_f hr0 (by omega) (by omega) (by omega))
    have hrs := (rowB_size s.round x).2
    have hap := fun w2 (hb : Below w.drew.heap.size w.drew w2) => append_walk (show At w2 A W st.n st.k st.l from (h.drew.below hb).disk) (by omega) hs.now_le 1 (rowB s.round x) (by omega)
    have hpp := fun w2 (hb : Below w.drew.heap.size w.drew w2) w3 hq => append_puts (w2 := w3) (i := 1) (s := rowB s.round x) (st := st) (show At w2 A W st.n st.k st.l from (h.drew.below hb).disk) hq
    have hsm : ¬ (1024 : Int) < x.size := by omega
    obtain ⟨i0, hi54, hz54⟩ := Option.map_eq_some_iff.1 infoS
    simp only [Prod.mk.injEq] at hz54
    obtain ⟨hz0, hz1, hz2⟩ := hz54
    generalize hR : rowB s.round x = R at *
    by_cases h0 : appendS st.n 1 R = 0
    · rw [h0, if_pos rfl]
      simp only [h0] at hap hpp
      have hpp2 := fun w2 hb w3 hq => hpp w2 hb w3 hq
      clear hpp e1 e2 e3 hR
      have h0 := Lib.hid h0
      rcases row_form h.log.row with ⟨rfl, hnl⟩ | ⟨g, cap, rfl, hcap, hmax, _, _⟩
      · obtain ⟨round, state, l, sure⟩ := s
        simp only at hnl
        subst hnl
        simp only [] at *
        go_enter Try.func12, Try.ntmps12
        go_wp2
        have k0 := c0
        have k1 := c1
        go_region_held3 (fun W => W.cell? ⟨L, 0, none⟩ = some (.pointer (some ⟨A, 0, none⟩)) ∧ W.cell? ⟨L, 1, none⟩ = some (.int .i64 round)) (first | exact ⟨e0, e1⟩ | exact ⟨k0, k1⟩) (first
          | (go_at_call 38; (with_reducible refine (hrow _).mono ?_); rintro e w1 ⟨rfl, hbel⟩
             have k0 : w1.cell? ⟨L, 0, none⟩ = some (.pointer (some ⟨A, 0, none⟩)) := (h.drew.below hbel).log.cell 0
             have k1 : w1.cell? ⟨L, 1, none⟩ = some (.int .i64 round) := (h.drew.below hbel).log.cell 1)
          | (go_at_call 29; (with_reducible refine (hap _ hbel).mono ?_); rintro e w2 ⟨rfl, hq⟩
             obtain ⟨W2, hD, hk, hW⟩ := hpp2 _ hbel _ hq
             have hm := (Mid.below (Mid.refl h).drew hbel).to (Mid.disk (st2 := appendT st 1 R) (h.drew.below hbel) hD hk hW)
             have e0 : w2.cell? ⟨L, 0, none⟩ = some (.pointer (some ⟨A, 0, none⟩)) := hm.1.log.cell 0
             have e1 : w2.cell? ⟨L, 1, none⟩ = some (.int .i64 round) := hm.1.log.cell 1
             have d3 : w2.cell? ⟨L, 3, none⟩ = some (.slice none 0 0) := hm.1.log.cell 3
             have f3 : w2.frozen? ⟨L, 3, none⟩ = false := hm.1.log.frozen 3
             clear hq hD hk hW))
        go_wp2_with (first
          | (at_builtin; refine wpList_append_grows _ rfl (.tmp 36) (.tmp 38) 30 rfl 9 i0 (.string ⟨#[]⟩) 1 16 underSS hi54 hz0 hz1 hz2 rfl (by decide) none 0 0 [] rfl (fun _ => ⟨rfl, rfl⟩) rfl (fun b hb => by cases hb) ⟨w2.heap.size, 0, none⟩ 1 1 [.string x] rfl rfl (cell_one_new _ _ _) (by simp [Value.oneCell']) (by decide) (by decide) (by decide) ?_
             intro v w5 hown hgr
             have hb5 := ((Below.refl w2.heap.size w2).alloc (Nat.le_refl _) (.cells #[.string x] 9)).grown hgr (by simp) (by simp)
             have hlt := hm.1.log.lt
             have e3 : w5.cell? ⟨L, 3, none⟩ = some (.slice none 0 0) := (hb5.cell (p := ⟨L, 3, none⟩) hlt).trans d3
             have g3 : w5.frozen? ⟨L, 3, none⟩ = false := (hb5.frozen (p := ⟨L, 3, none⟩) hlt).trans f3
             obtain ⟨vg, vcap, rfl, _⟩ := hown.form (by decide)))
        go_returns
        exact ⟨rfl, (hm.to (hm.1.appended (x := x) hb5 hown (by simp))).step⟩
      · obtain ⟨round, state, l, sure⟩ := s
        simp only [] at *
        unfold maxLen at hmax
        go_enter Try.func12, Try.ntmps12
        go_wp2
        have k0 := c0
        have k1 := c1
        go_region_held3 (fun W => W.cell? ⟨L, 0, none⟩ = some (.pointer (some ⟨A, 0, none⟩)) ∧ W.cell? ⟨L, 1, none⟩ = some (.int .i64 round)) (first | exact ⟨e0, e1⟩ | exact ⟨k0, k1⟩) (first
          | (go_at_call 38; (with_reducible refine (hrow _).mono ?_); rintro e w1 ⟨rfl, hbel⟩
             have k0 : w1.cell? ⟨L, 0, none⟩ = some (.pointer (some ⟨A, 0, none⟩)) := (h.drew.below hbel).log.cell 0
             have k1 : w1.cell? ⟨L, 1, none⟩ = some (.int .i64 round) := (h.drew.below hbel).log.cell 1)
          | (go_at_call 29; (with_reducible refine (hap _ hbel).mono ?_); rintro e w2 ⟨rfl, hq⟩
             obtain ⟨W2, hD, hk, hW⟩ := hpp2 _ hbel _ hq
             have hm := (Mid.below (Mid.refl h).drew hbel).to (Mid.disk (st2 := appendT st 1 R) (h.drew.below hbel) hD hk hW)
             have e0 : w2.cell? ⟨L, 0, none⟩ = some (.pointer (some ⟨A, 0, none⟩)) := hm.1.log.cell 0
             have e1 : w2.cell? ⟨L, 1, none⟩ = some (.int .i64 round) := hm.1.log.cell 1
             have d3 : w2.cell? ⟨L, 3, none⟩ = some (.slice (some ⟨g, 0, none⟩) l.length cap) := hm.1.log.cell 3
             have f3 : w2.frozen? ⟨L, 3, none⟩ = false := hm.1.log.frozen 3
             clear hq hD hk hW))
        go_wp2_with (first
          | (at_builtin; refine wpList_append_grows _ rfl (.tmp 36) (.tmp 38) 30 rfl 9 i0 (.string ⟨#[]⟩) 1 16 underSS hi54 hz0 hz1 hz2 rfl (by decide) (some ⟨g, 0, none⟩) l.length l.length (l.map Value.string) rfl (fun e => by cases e) (by simp) (fun b hb => by cases hb; exact (hm.1.log.row.alloc (.cells #[.string x] 9)).cells rfl) ⟨w2.heap.size, 0, none⟩ 1 1 [.string x] rfl rfl (cell_one_new _ _ _) (by simp [Value.oneCell']) (by omega) (by simp only [maxLen]; omega) (by omega) ?_
             intro v w5 hown hgr
             have hb5 := ((Below.refl w2.heap.size w2).alloc (Nat.le_refl _) (.cells #[.string x] 9)).grown hgr (by simp) (by simp)
             have hlt := hm.1.log.lt
             have e3 : w5.cell? ⟨L, 3, none⟩ = some (.slice (some ⟨g, 0, none⟩) l.length cap) := (hb5.cell (p := ⟨L, 3, none⟩) hlt).trans d3
             have g3 : w5.frozen? ⟨L, 3, none⟩ = false := (hb5.frozen (p := ⟨L, 3, none⟩) hlt).trans f3
             obtain ⟨vg, vcap, rfl, _⟩ := hown.form (by omega)))
        go_returns
        exact ⟨rfl, (hm.to (hm.1.appended (x := x) hb5 hown (by simp))).step⟩
    · have h0b : (appendS st.n 1 R == 0) = false := by simpa using h0
      have h0c : (appendS st.n 1 R != 0) = true := by simpa using h0
      have e4 : appendT st 1 R = st := by unfold appendT; rw [if_neg h0]
      rw [e4, if_neg h0]
      simp only [h0, if_false] at hap
      have h0 := Lib.hid h0
      clear e1 e2 e3 hpp e4 hR
      go_enter Try.func12, Try.ntmps12
      go_wp2
      have k0 := c0
      have k1 := c1
      go_region_held3 (fun W => W.cell? ⟨L, 0, none⟩ = some (.pointer (some ⟨A, 0, none⟩)) ∧ W.cell? ⟨L, 1, none⟩ = some (.int .i64 s.round)) (exact ⟨k0, k1⟩) (first
        | (go_at_call 38; (with_reducible refine (hrow _).mono ?_); rintro e w1 ⟨rfl, hbel⟩
           have k0 : w1.cell? ⟨L, 0, none⟩ = some (.pointer (some ⟨A, 0, none⟩)) := (h.drew.below hbel).log.cell 0
           have k1 : w1.cell? ⟨L, 1, none⟩ = some (.int .i64 s.round) := (h.drew.below hbel).log.cell 1)
        | (go_at_call 29; (with_reducible refine (hap _ hbel).mono ?_); rintro e w2 ⟨rfl, rfl⟩))
      go_wp2
      go_returns
      exact ⟨rfl, ((Mid.below (Mid.refl h).drew hbel)).step⟩
def chkA (x : ByteArray) : Int := if x.size > 16384 then 2 else 0
def chkT (st : St) (s : LSt) (x : ByteArray) : St := if x.size > 16384 then st else replaceT (replaceT st 0 (rowB (s.round + 1) x)) 1 ⟨#[]⟩
def chkL (s : LSt) (x : ByteArray) : LSt := if x.size > 16384 then s else ⟨s.round + 1, x, [], 0⟩
set_option maxHeartbeats 2000000 in
theorem lcheck_walk {w : World} {A : Nat} {W : Value} {L : Nat} {V : Value} {st : St} {s : LSt} (h : PL own 65 w A W L V st s) {b : Nat} (hs : Sound b st) (hb : b ≤ 900) (hr0 : 0 ≤ s.round) (hr1 : s.round ≤ 2199023255552) (x : ByteArray) (hx : x.size ≤ 1000000) :
    Calls Try.prog 15 #[.pointer (some ⟨L, 0, none⟩), .string x] w fun e w2 => e = .returned (.int .i64 (chkA x)) ∧ Step own 65 w w2 A W L V (chkT st s x) (chkL s x) := by
  have c1 : w.cell? ⟨L, 1, none⟩ = some (.int .i64 s.round) := h.log.cell 1
  have c2 : w.cell? ⟨L, 2, none⟩ = some (.string s.state) := h.log.cell 2
  have c3 : w.cell? ⟨L, 3, none⟩ = some V := h.log.cell 3
  have c4 : w.cell? ⟨L, 4, none⟩ = some (.int .i64 s.sure) := h.log.cell 4
  have f1 := h.log.frozen 1
  have f2 := h.log.frozen 2
  have f3 := h.log.frozen 3
  have f4 := h.log.frozen 4
  have hlen := hs.len
  by_cases hbig : x.size > 16384
  · have e1 : chkA x = 2 := by unfold chkA; rw [if_pos hbig]
    have e2 : chkT st s x = st := by unfold chkT; rw [if_pos hbig]
    have e3 : chkL s x = s := by unfold chkL; rw [if_pos hbig]
    rw [e1, e2, e3]
    have hbig2 : (16384 : Int) < x.size := by omega
    have hfin := Step.same h (Below.refl _ _)
    clear h e1 e2 e3
    go_enter Try.func15, Try.ntmps15
    go_wp2
    go_returns
    exact ⟨rfl, hfin⟩
  · have e1 : chkA x = 0 := by unfold chkA; rw [if_neg hbig]
    have e2 : chkT st s x = replaceT (replaceT st 0 (rowB (s.round + 1) x)) 1 ⟨#[]⟩ := by unfold chkT; rw [if_neg hbig]
    have e3 : chkL s x = ⟨s.round + 1, x, [], 0⟩ := by unfold chkL; rw [if_neg hbig]
    rw [e1, e2, e3]
    have hsm : ¬ (16384 : Int) < x.size := by omega
    have hrow := fun w => wal_row.calls 20 (s.round + 1) x (rowB (s.round + 1) x) w (row_f (by omega) (by omega) (by omega) (by omega))
    have hrs := (rowB_size (s.round + 1) x).2
    have hL := h.log.lt
    obtain ⟨vo, vc, rfl⟩ := own_form h.log.row
    have hm0 : Mid own 65 w ((((w.setCell ⟨L, 1, none⟩ (.int .i64 (s.round + 1))).setCell ⟨L, 2, none⟩ (.string x)).setCell ⟨L, 3, none⟩ (.slice none 0 0)).setCell ⟨L, 4, none⟩ (.int .i64 0)) A W L (.slice vo s.l.length vc) W (.slice none 0 0) st ⟨s.round + 1, x, [], 0⟩ :=
      h.stored (((((KeepsF.refl w (fun k => k = L)).setCell (.inl rfl) 1 _).setCell (.inl rfl) 2 _).setCell (.inl rfl) 3 _).setCell (.inl rfl) 4 _) ((set_self (set_self (set_self (set_self h.log.cells)))).trans (by simp [lcells])) (World.ownsRow_nil _ _ _ _) (.inr fun b e => by rw [nil_own] at e; cases e)
    have hs2 := hs.replace 0 (rowB (s.round + 1) x)
    have hst2 := hs2.len
    generalize rowB (s.round + 1) x = R at *
    clear e1 e2 e3
    go_enter Try.func15, Try.ntmps15
    go_wp2
    generalize hwz : World.setCell (World.setCell (World.setCell (World.setCell w _ _) _ _) _ _) _ _ = wz at *
    clear hwz c1 c2 c3 c4 f1 f2 f3 f4
    have hmd := hm0.drew
    have k0 : wz.cell? ⟨L, 0, none⟩ = some (.pointer (some ⟨A, 0, none⟩)) := hm0.1.log.cell 0
    have k1 : wz.cell? ⟨L, 1, none⟩ = some (.int .i64 (s.round + 1)) := hm0.1.log.cell 1
    go_region_held3 (fun W => W.cell? ⟨L, 0, none⟩ = some (.pointer (some ⟨A, 0, none⟩)) ∧ W.cell? ⟨L, 1, none⟩ = some (.int .i64 (s.round + 1))) (first | exact ⟨e0, e1⟩ | exact ⟨k0, k1⟩) (first
      | (go_at_call 38; (with_reducible refine (hrow _).mono ?_); rintro e w1 ⟨rfl, hbel⟩
         have hm1 := hmd.below hbel
         have k0 : w1.cell? ⟨L, 0, none⟩ = some (.pointer (some ⟨A, 0, none⟩)) := hm1.1.log.cell 0
         have k1 : w1.cell? ⟨L, 1, none⟩ = some (.int .i64 (s.round + 1)) := hm1.1.log.cell 1)
      | (go_at_call 22; (with_reducible refine (replace_walk (Mid.dsk hm1) (by omega) 0 R (by omega)).mono ?_); rintro e w2 ⟨rfl, hq⟩
         obtain ⟨W2, hD, hk, hW⟩ := replace_puts (Mid.dsk hm1) hq
         have hm2 := hm1.to (Mid.disk (st2 := replaceT st 0 R) hm1.1 hD hk hW)
         have e0 : w2.cell? ⟨L, 0, none⟩ = some (.pointer (some ⟨A, 0, none⟩)) := hm2.1.log.cell 0
         have e1 : w2.cell? ⟨L, 1, none⟩ = some (.int .i64 (s.round + 1)) := hm2.1.log.cell 1
         clear hq hD hk hW))
    go_wp2_with (first
      | (go_at_call 22; (with_reducible refine (replace_walk (Mid.dsk hm2) (by omega) 1 ⟨#[]⟩ (by decide)).mono ?_); rintro e w3 ⟨rfl, hq⟩
         obtain ⟨W3, hD, hk, hW⟩ := replace_puts (Mid.dsk hm2) hq
         have hm3 := hm2.to (Mid.disk (st2 := replaceT (replaceT st 0 R) 1 ⟨#[]⟩) hm2.1 hD hk hW)
         clear hq hD hk hW))
    go_returns
    exact ⟨rfl, hm3.step⟩
end Go.Proofs.Ytkiepnmbimkadaa.WL
