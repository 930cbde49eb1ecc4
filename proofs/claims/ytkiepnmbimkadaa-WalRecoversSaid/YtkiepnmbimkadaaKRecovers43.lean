import Derived.Test.YtkiepnmbimkadaaKRecovers39
import Derived.Test.YtkiepnmbimkadaaKRecovers42
import Derived.Test.YtkiepnmbimkadaaKRecovers38
namespace Go.Proofs.Ytkiepnmbimkadaa.WL
open Go.RowKit Go.Proofs.Ytkiepnmbimkadaa Go.Proofs.Ytkiepnmbimkadaa.DK Go.Proofs.Ytkiepnmbimkadaa.Pr Go.Proofs.Ytkiepnmbimkadaa.VP Go.Proofs.Ytkiepnmbimkadaa.VF Go.Proofs.Ytkiepnmbimkadaa.CF Go.Proofs.Ytkiepnmbimkadaa.WF
structure OP (K : Kind) (T : TypeId) (N : Nat) (w0 w : World) (A : Nat) (W : Value) (L : Nat) (V : Value) (st : St) (s : LSt) : Prop where
  pl : PL K T w A W L V st s
  bel : Below N w0 w
  base : N ≤ w.heap.size
  low : ∀ k, InF A W L V k → N ≤ k
theorem OP.step {K : Kind} {T : TypeId} {N : Nat} {w0 w w2 : World} {A : Nat} {W : Value} {L : Nat} {V : Value} {st st2 : St} {s s2 : LSt} (h : OP K T N w0 w A W L V st s) (hs : Step K T w w2 A W L V st2 s2) :
    ∃ W2 V2, OP K T N w0 w2 A W2 L V2 st2 s2 ∧ KeepsF w w2 (InF A W L V) ∧ ∀ k, InF A W2 L V2 k → InF A W L V k ∨ w.heap.size ≤ k := by
  obtain ⟨W2, V2, a, b, c⟩ := hs
  refine ⟨W2, V2, ⟨a, b.bel h.bel h.base h.low, Nat.le_trans h.base b.size, fun k g => ?_⟩, b, c⟩
  rcases c k g with e | e
  · exact h.low k e
  · exact Nat.le_trans h.base e
theorem OP.below {K : Kind} {T : TypeId} {N : Nat} {w0 w w2 : World} {A : Nat} {W : Value} {L : Nat} {V : Value} {st : St} {s : LSt} (h : OP K T N w0 w A W L V st s) (hb : Below w.heap.size w w2) : OP K T N w0 w2 A W L V st s :=
  ⟨h.pl.below hb, h.bel.trans (hb.mono h.base), Nat.le_trans h.base hb.size, h.low⟩
theorem OP.drew {K : Kind} {T : TypeId} {N : Nat} {w0 w : World} {A : Nat} {W : Value} {L : Nat} {V : Value} {st : St} {s : LSt} (h : OP K T N w0 w A W L V st s) : OP K T N w0 w.drew A W L V st s := h.below (Below.refl _ _).drew
theorem OP.alloc {K : Kind} {T : TypeId} {N : Nat} {w0 w : World} {A : Nat} {W : Value} {L : Nat} {V : Value} {st : St} {s : LSt} (h : OP K T N w0 w A W L V st s) (o : Obj) : OP K T N w0 (w.alloc o) A W L V st s := h.below ((Below.refl _ _).alloc (Nat.le_refl _) _)
theorem OP.keep {K : Kind} {T : TypeId} {N : Nat} {w0 w w2 : World} {A : Nat} {W : Value} {L : Nat} {V : Value} {st : St} {s : LSt} (h : OP K T N w0 w A W L V st s) {F : Nat → Prop} (hK : KeepsF w w2 F) (hd : ∀ k, InF A W L V k → ¬ F k) (hF : ∀ k, F k → N ≤ k) : OP K T N w0 w2 A W L V st s :=
  ⟨h.pl.keep hK hd, hK.bel h.bel h.base hF, Nat.le_trans h.base hK.size, h.low⟩
theorem OP.opened {K : Kind} {T : TypeId} {N : Nat} {w0 w w2 : World} {A : Nat} {W : Value} {L : Nat} {st : St} {s : LSt} (hb : Below N w0 w) (hN : N ≤ w.heap.size) (hA : N ≤ A) (hW : ∀ k, W.ownBlock = some k → N ≤ k) (h : Opened K T w w2 A W L st s) :
    ∃ W2 V2, OP K T N w0 w2 A W2 L V2 st s ∧ KeepsF w w2 (fun k => k = A ∨ W.ownBlock = some k) ∧ ∀ k, InF A W2 L V2 k → (k = A ∨ W.ownBlock = some k) ∨ w.heap.size ≤ k := by
  obtain ⟨W2, V2, a, b, c, d⟩ := h
  have hl : ∀ k, (k = A ∨ W.ownBlock = some k) → N ≤ k := by
    rintro k (rfl | e)
    · exact hA
    · exact hW k e
  refine ⟨W2, V2, ⟨a, b.bel hb hN hl, Nat.le_trans hN b.size, fun k g => ?_⟩, b, c⟩
  rcases c k g with e | e
  · exact hl k e
  · exact Nat.le_trans hN e
theorem app_yes {F : Four} {i : Int} {s : ByteArray} (hi : 0 ≤ i ∧ i < 4) (hz : (F.at i).size + s.size ≤ 65536) : appendS F i s = 0 := by
  unfold appendS
  rw [if_neg (by simp; omega), if_neg (by omega)]
theorem rep_yes {i : Int} {s : ByteArray} (hi : 0 ≤ i ∧ i < 4) (hz : s.size ≤ 65536) : replaceS i s = 0 := by
  unfold replaceS
  rw [if_neg (by simp; omega), if_neg (by omega)]
theorem lappend_ok {w : World} {A : Nat} {W : Value} {L : Nat} {V : Value} {st : St} {s : LSt} (h : PL own 65 w A W L V st s) {b : Nat} (hs : Sound b st) (hb : b ≤ 1000) (hr0 : 0 ≤ s.round) (hr1 : s.round ≤ 1099511000000) (hl : s.l.length ≤ 100000) (x : ByteArray) (hx : x.size ≤ 1024) (hz : (st.n.at 1).size + (rowB s.round x).size ≤ 65536) :
    Calls Try.prog 12 #[.pointer (some ⟨L, 0, none⟩), .string x] w fun e w2 => e = .returned (.int .i64 0) ∧ Step own 65 w w2 A W L V ⟨st.n.to 1 (st.n.at 1 ++ rowB s.round x), st.k, st.l ++ [⟨false, 1, rowB s.round x⟩]⟩ ⟨s.round, s.state, s.l ++ [x], s.sure⟩ := by
  have h0 := app_yes (F := st.n) (i := 1) (by omega) hz
  have hw := lappend_walk h hs hb hr0 (by omega) hl x (by omega)
  have e1 : appA st s x = 0 := by unfold appA; rw [if_neg (by omega), h0]
  have e2 : appT st s x = ⟨st.n.to 1 (st.n.at 1 ++ rowB s.round x), st.k, st.l ++ [⟨false, 1, rowB s.round x⟩]⟩ := by unfold appT appendT; rw [if_neg (by omega), if_pos h0]
  have e3 : appL st s x = ⟨s.round, s.state, s.l ++ [x], s.sure⟩ := by unfold appL; rw [if_neg (by omega), if_pos h0]
  rw [e1, e2, e3] at hw
  exact hw
theorem lappend_big {w : World} {A : Nat} {W : Value} {L : Nat} {V : Value} {st : St} {s : LSt} (h : PL own 65 w A W L V st s) {b : Nat} (hs : Sound b st) (hb : b ≤ 1000) (hr0 : 0 ≤ s.round) (hr1 : s.round ≤ 1099511000000) (hl : s.l.length ≤ 100000) (x : ByteArray) (hx : 1024 < x.size) (hx2 : x.size ≤ 1000000) :
    Calls Try.prog 12 #[.pointer (some ⟨L, 0, none⟩), .string x] w fun e w2 => e = .returned (.int .i64 2) ∧ Step own 65 w w2 A W L V st s := by
  have hw := lappend_walk h hs hb hr0 (by omega) hl x hx2
  have e1 : appA st s x = 2 := by unfold appA; rw [if_pos hx]
  have e2 : appT st s x = st := by unfold appT; rw [if_pos hx]
  have e3 : appL st s x = s := by unfold appL; rw [if_pos hx]
  rw [e1, e2, e3] at hw
  exact hw
theorem lcheck_ok {w : World} {A : Nat} {W : Value} {L : Nat} {V : Value} {st : St} {s : LSt} (h : PL own 65 w A W L V st s) {b : Nat} (hs : Sound b st) (hb : b ≤ 900) (hr0 : 0 ≤ s.round) (hr1 : s.round ≤ 1099511000000) (x : ByteArray) (hx : x.size ≤ 16384) :
    Calls Try.prog 15 #[.pointer (some ⟨L, 0, none⟩), .string x] w fun e w2 => e = .returned (.int .i64 0) ∧ Step own 65 w w2 A W L V ⟨(st.n.to 0 (rowB (s.round + 1) x)).to 1 ⟨#[]⟩, st.k, st.l ++ [⟨true, 0, rowB (s.round + 1) x⟩, ⟨true, 1, ⟨#[]⟩⟩]⟩ ⟨s.round + 1, x, [], 0⟩ := by
  have hz := (rowB_size (s.round + 1) x).2
  have h0 := rep_yes (i := 0) (s := rowB (s.round + 1) x) (by omega) (by omega)
  have h1 := rep_yes (i := 1) (s := ⟨#[]⟩) (by omega) (by decide)
  have hw := lcheck_walk h hs hb hr0 (by omega) x (by omega)
  have e1 : chkA x = 0 := by unfold chkA; rw [if_neg (by omega)]
  have e2 : chkT st s x = ⟨(st.n.to 0 (rowB (s.round + 1) x)).to 1 ⟨#[]⟩, st.k, st.l ++ [⟨true, 0, rowB (s.round + 1) x⟩, ⟨true, 1, ⟨#[]⟩⟩]⟩ := by
    unfold chkT replaceT
    rw [if_neg (by omega), if_pos h0, if_pos h1]
    simp only [List.append_assoc]
    rfl
  have e3 : chkL s x = ⟨s.round + 1, x, [], 0⟩ := by unfold chkL; rw [if_neg (by omega)]
  rw [e1, e2, e3] at hw
  exact hw
theorem Tells.openT {F k : Four} {m : List Wr} {s : LSt} (h : Tells F s) (hz : (textS s.round s.l).size ≤ 65536) : WL.openT ⟨F, k, m⟩ = ⟨F.to 1 (textS s.round s.l), F.to 1 (textS s.round s.l), []⟩ := by
  unfold WL.openT
  rw [h.recs, h.openR]
  show synced (if textS s.round s.l = F.at 1 then _ else _) = _
  by_cases e : textS s.round s.l = F.at 1
  · rw [if_pos e, e, to_at]
    rfl
  · rw [if_neg e]
    unfold replaceT
    rw [if_pos (rep_yes (by omega) hz)]
    rfl
theorem Tells.text {F : Four} {s : LSt} (h : Tells F s) : (textS s.round s.l).size ≤ 65536 := by
  obtain ⟨q, l, x, j, q0, q1, hl, hx, hj, hF, hz, hc⟩ := h.rows
  rcases hc with ⟨rfl, rfl⟩ | ⟨_, hn⟩
  · rw [hF, ByteArray.size_append] at hz
    omega
  · rw [hn]
    exact Nat.zero_le _
theorem open_ok {w : World} {A : Nat} {W : Value} {st : St} (h : At w A W st.n st.k st.l) {b : Nat} (hs : Sound b st) (hb0 : b ≤ 900) {s : LSt} (ht : Tells st.n s) :
    Calls Try.prog 10 #[.pointer (some ⟨A, 0, none⟩)] w fun e w2 => ∃ L, e = .returned (.tuple #[.pointer (some ⟨L, 0, none⟩), .int .i64 0]) ∧ Opened own 65 w w2 A W L ⟨st.n.to 1 (textS s.round s.l), st.n.to 1 (textS s.round s.l), []⟩ ⟨s.round, s.state, s.l, s.l.length⟩ := by
  have hw := open_good h hs hb0 (show WL.openE ⟨st.n, st.k, st.l⟩ = 0 from ht.openE)
  have e1 : WL.openT st = ⟨st.n.to 1 (textS s.round s.l), st.n.to 1 (textS s.round s.l), []⟩ := ht.openT (k := st.k) (m := st.l) ht.text
  have e2 : WL.openL st = ⟨s.round, s.state, s.l, s.l.length⟩ := ht.openL (k := st.k) (m := st.l)
  rw [e1, e2] at hw
  exact hw
theorem OP.disk {T : TypeId} {N : Nat} {w0 w : World} {A : Nat} {W : Value} {L : Nat} {V : Value} {st : St} {s : LSt} (h : OP own T N w0 w A W L V st s) : Own N w0 w A W st.n st.k st.l :=
  ⟨h.pl.disk, h.bel, h.base, h.low A (.inl rfl), fun b e => h.low b (.inr (.inl e))⟩
theorem own_opened {N : Nat} {w0 w w2 : World} {A : Nat} {W : Value} {n k : Four} {l : List Wr} {T : TypeId} {L : Nat} {st : St} {s : LSt} (h : Own N w0 w A W n k l) (ho : Opened own T w w2 A W L st s) :
    ∃ W2 V2, OP own T N w0 w2 A W2 L V2 st s ∧ KeepsF w w2 (fun k => k = A ∨ W.ownBlock = some k) ∧ ∀ k, InF A W2 L V2 k → (k = A ∨ W.ownBlock = some k) ∨ w.heap.size ≤ k :=
  OP.opened h.bel h.base h.low h.row ho
end Go.Proofs.Ytkiepnmbimkadaa.WL
