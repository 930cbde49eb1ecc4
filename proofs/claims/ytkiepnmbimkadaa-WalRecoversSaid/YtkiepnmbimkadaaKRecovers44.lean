import Derived.Test.YtkiepnmbimkadaaKRecovers43
section
namespace Go.Proofs.Ytkiepnmbimkadaa.WL
open Go.RowKit Go.Proofs.Ytkiepnmbimkadaa Go.Proofs.Ytkiepnmbimkadaa.DK Go.Proofs.Ytkiepnmbimkadaa.Pr Go.Proofs.Ytkiepnmbimkadaa.VP Go.Proofs.Ytkiepnmbimkadaa.VF Go.Proofs.Ytkiepnmbimkadaa.CF Go.Proofs.Ytkiepnmbimkadaa.WF
structure Foot (F : Nat → Prop) (P : World → Prop) : Prop where
  lt : ∀ w, P w → ∀ k, F k → k < w.heap.size
  keep : ∀ w w2, P w → (∀ k, F k → w2.heap[k]? = w.heap[k]?) → P w2
theorem PL.foot (K : Kind) (T : TypeId) (A : Nat) (W : Value) (L : Nat) (V : Value) (st : St) (s : LSt) : Foot (InF A W L V) (fun w => PL K T w A W L V st s) :=
  ⟨fun _ h => h.inlt, fun w w2 h hk => ⟨K.moved h.disk (hk A (.inl rfl)) (fun k e => hk k (.inr (.inl e))), h.log.moved (hk L (.inr (.inr (.inl rfl)))) (fun k e => hk k (.inr (.inr (.inr e)))), h.off⟩⟩
def InD (A : Nat) (W : Value) (k : Nat) : Prop := k = A ∨ W.ownBlock = some k
theorem Kind.foot (K : Kind) (A : Nat) (W : Value) (st : St) : Foot (InD A W) (fun w => K.D w A W st) :=
  ⟨fun w h k g => by
    rcases g with rfl | e
    · exact K.lt h
    · exact K.row h k e, fun w w2 h hk => K.moved h (hk A (.inl rfl)) (fun k e => hk k (.inr e))⟩
def InV (v : Value) (k : Nat) : Prop := v.ownBlock = some k
theorem OpsAt.foot (N : Nat) (v : Value) (l : List ML.OpM) : Foot (InV v) (fun w => OpsAt w N v l) := ⟨fun w h k e => (h.row.lt k e).2, fun w w2 h hk => h.below (fun k e => hk k e)⟩
theorem Foot.none : Foot (fun _ => False) (fun _ => True) := ⟨fun _ _ _ g => g.elim, fun _ _ _ _ => trivial⟩
structure Trio (N : Nat) (w0 w : World) (F G H : Nat → Prop) (P Q R : World → Prop) : Prop where
  p : P w
  q : Q w
  r : R w
  pf : Foot F P
  qf : Foot G Q
  rf : Foot H R
  bel : Below N w0 w
  base : N ≤ w.heap.size
  fl : ∀ k, F k → N ≤ k
  gl : ∀ k, G k → N ≤ k
  fg : ∀ k, F k → ¬ G k
  fh : ∀ k, F k → ¬ H k
  gh : ∀ k, G k → ¬ H k
section
variable {N : Nat} {w0 w w2 : World} {F G H F2 : Nat → Prop} {P Q R P2 : World → Prop}
theorem Trio.stepP (h : Trio N w0 w F G H P Q R) (hK : KeepsF w w2 F) (hp : P2 w2) (pf : Foot F2 P2) (hf : ∀ k, F2 k → F k ∨ w.heap.size ≤ k) : Trio N w0 w2 F2 G H P2 Q R :=
  ⟨hp, h.qf.keep w w2 h.q (fun k g => hK.block k (h.qf.lt w h.q k g) (fun f => h.fg k f g)), h.rf.keep w w2 h.r (fun k g => hK.block k (h.rf.lt w h.r k g) (fun f => h.fh k f g)), pf, h.qf, h.rf, hK.bel h.bel h.base h.fl, Nat.le_trans h.base hK.size,
   (fun k g => by
     rcases hf k g with e | e
     · exact h.fl k e
     · exact Nat.le_trans h.base e), h.gl, (fun k f g => by
     rcases hf k f with e | e
     · exact h.fg k e g
     · have := h.qf.lt w h.q k g
       omega), (fun k f g => by
     rcases hf k f with e | e
     · exact h.fh k e g
     · have := h.rf.lt w h.r k g
       omega), h.gh⟩
theorem Trio.below (h : Trio N w0 w F G H P Q R) (hb : Below w.heap.size w w2) : Trio N w0 w2 F G H P Q R :=
  ⟨h.pf.keep w w2 h.p (fun k g => hb.block k (h.pf.lt w h.p k g)), h.qf.keep w w2 h.q (fun k g => hb.block k (h.qf.lt w h.q k g)), h.rf.keep w w2 h.r (fun k g => hb.block k (h.rf.lt w h.r k g)), h.pf, h.qf, h.rf, h.bel.trans (hb.mono h.base), Nat.le_trans h.base hb.size, h.fl, h.gl, h.fg, h.fh, h.gh⟩
theorem Trio.drew (h : Trio N w0 w F G H P Q R) : Trio N w0 w.drew F G H P Q R := h.below (Below.refl _ _).drew
theorem Trio.alloc (h : Trio N w0 w F G H P Q R) (o : Obj) : Trio N w0 (w.alloc o) F G H P Q R := h.below ((Below.refl _ _).alloc (Nat.le_refl _) o)
theorem Trio.less (h : Trio N w0 w F G H P Q R) (hp : P2 w) (pf : Foot F2 P2) (hf : ∀ k, F2 k → F k) : Trio N w0 w F2 G H P2 Q R :=
  ⟨hp, h.q, h.r, pf, h.qf, h.rf, h.bel, h.base, fun k g => h.fl k (hf k g), h.gl, fun k g => h.fg k (hf k g), fun k g => h.fh k (hf k g), h.gh⟩
end
section
variable {K : Kind} {T : TypeId} {N : Nat} {w0 w w2 : World} {G H : Nat → Prop} {Q R : World → Prop} {A L : Nat} {W V : Value} {st st2 : St} {s s2 : LSt}
theorem Trio.step (h : Trio N w0 w (InF A W L V) G H (fun w => PL K T w A W L V st s) Q R) (hs : Step K T w w2 A W L V st2 s2) : ∃ W2 V2, Trio N w0 w2 (InF A W2 L V2) G H (fun w => PL K T w A W2 L V2 st2 s2) Q R := by
  obtain ⟨W2, V2, a, b, c⟩ := hs
  exact ⟨W2, V2, h.stepP b a (PL.foot ..) c⟩
theorem Trio.toD (h : Trio N w0 w (InF A W L V) G H (fun w => PL K T w A W L V st s) Q R) : Trio N w0 w (InD A W) G H (fun w => K.D w A W st) Q R :=
  h.less h.p.disk (K.foot ..) (fun k g => g.imp id .inl)
theorem Trio.disk (h : Trio N w0 w (InD A W) G H (fun w => K.D w A W st) Q R) {W2 : Value} (hD : K.D w2 A W2 st2) (hk : Keeps w w2 A W) (hW : W2.ownBlock = W.ownBlock ∨ ∀ b, W2.ownBlock = some b → w.heap.size ≤ b) : Trio N w0 w2 (InD A W2) G H (fun w => K.D w A W2 st2) Q R :=
  h.stepP (KeepsF.of_keeps hk (.inl rfl) (fun k e => .inr e)) hD (K.foot ..) (fun k g => by
    rcases g with g | g
    · exact .inl (.inl g)
    · rcases hW with e | e
      · exact .inl (.inr (by rw [← e]; exact g))
      · exact .inr (e k g))
theorem Trio.opened (h : Trio N w0 w (InD A W) G H (fun w => K.D w A W st) Q R) (ho : Opened K T w w2 A W L st2 s2) : ∃ W2 V2, Trio N w0 w2 (InF A W2 L V2) G H (fun w => PL K T w A W2 L V2 st2 s2) Q R := by
  obtain ⟨W2, V2, a, b, c, _⟩ := ho
  exact ⟨W2, V2, h.stepP b a (PL.foot ..) c⟩
end
section
variable {K : Kind} {T : TypeId} {N : Nat} {w0 w : World} {F G H : Nat → Prop} {P Q R : World → Prop} {A L : Nat} {W V : Value} {st : St} {s : LSt}
theorem Trio.dsk (h : Trio N w0 w F G H (fun w => own.D w A W st) Q R) : At w A W st.n st.k st.l := h.p
theorem Trio.pl (h : Trio N w0 w F G H (fun w => PL K T w A W L V st s) Q R) : PL K T w A W L V st s := h.p
theorem Trio.ops {v : Value} {l : List ML.OpM} (h : Trio N w0 w F G H P Q (fun w => OpsAt w N v l)) : OpsAt w N v l := h.r
end
def Heads (m : Int) (st : St) : Prop := ∀ u, ∃ r t, headS ((stays st.l u st.k).at 0) = (r, t, 0) ∧ 0 ≤ r ∧ r ≤ m
theorem Heads.mono {m m2 : Int} {st : St} (h : Heads m st) (hm : m ≤ m2) : Heads m2 st := fun u => by
  obtain ⟨r, t, a, b, c⟩ := h u
  exact ⟨r, t, a, b, by omega⟩
theorem act_other {x : Wr} {i : Int} (hx : x.file ≠ i) (r : Four) (m : Nat) : (x.act r m).at i = r.at i := by
  unfold Wr.act
  split
  · split
    · rw [at_to, if_neg (fun g => hx g.2.2)]
    · rfl
  · rw [at_to, if_neg (fun g => hx g.2.2)]
theorem stays_other {x : Wr} {i : Int} (hx : x.file ≠ i) (l : List Wr) (u : Nat) (k : Four) : (stays (l ++ [x]) u k).at i = (stays l u k).at i := by
  rw [stays_append]
  rcases stays_one x (u - unitsOf l) (stays l u k) with e | e
  · rw [e]
  · rw [e]
    exact act_other hx _ _
theorem Heads.sure {m : Int} {F : Four} {r : Int} {t : ByteArray} (h : headS (F.at 0) = (r, t, 0)) (h0 : 0 ≤ r) (h1 : r ≤ m) : Heads m ⟨F, F, []⟩ := fun _ => ⟨r, t, h, h0, h1⟩
theorem Heads.append {m : Int} {st : St} (h : Heads m st) (s : ByteArray) : Heads m (appendT st 1 s) := by
  unfold appendT
  split
  · intro u
    obtain ⟨r, t, a, b⟩ := h u
    exact ⟨r, t, by show headS ((stays (st.l ++ [⟨false, 1, s⟩]) u st.k).at 0) = _; rw [stays_other (show (1 : Int) ≠ 0 by decide)]; exact a, b⟩
  · exact h
theorem Heads.replace {m : Int} {st : St} (h : Heads m st) (s : ByteArray) : Heads m (replaceT st 1 s) := by
  unfold replaceT
  split
  · intro u
    obtain ⟨r, t, a, b⟩ := h u
    exact ⟨r, t, by show headS ((stays (st.l ++ [⟨true, 1, s⟩]) u st.k).at 0) = _; rw [stays_other (show (1 : Int) ≠ 0 by decide)]; exact a, b⟩
  · exact h
theorem Heads.head {m : Int} {st : St} (h : Heads m st) {r : Int} {t x : ByteArray} (hx : headS x = (r, t, 0)) (h0 : 0 ≤ r) (h1 : r ≤ m) : Heads m (replaceT st 0 x) := by
  unfold replaceT
  split
  · intro u
    show ∃ r t, headS ((stays (st.l ++ [⟨true, 0, x⟩]) u st.k).at 0) = (r, t, 0) ∧ 0 ≤ r ∧ r ≤ m
    rw [stays_append]
    rcases stays_one ⟨true, 0, x⟩ (u - unitsOf st.l) (stays st.l u st.k) with e | e
    · rw [e]
      exact h u
    · rw [e]
      show ∃ r t, headS ((if min (u - unitsOf st.l) 1 = 1 then (stays st.l u st.k).to 0 x else stays st.l u st.k).at 0) = (r, t, 0) ∧ 0 ≤ r ∧ r ≤ m
      split
      · rw [at_to, if_pos (by omega)]
        exact ⟨r, t, hx, h0, h1⟩
      · exact h u
  · exact h
theorem Heads.now {m : Int} {st : St} (h : Heads m st) {b : Nat} (hs : Sound b st) : ∃ r t, headS (st.n.at 0) = (r, t, 0) ∧ 0 ≤ r ∧ r ≤ m := by
  have := h (unitsOf st.l)
  rw [hs.now] at this
  exact this
theorem Heads.synced {m : Int} {st : St} (h : Heads m st) {b : Nat} (hs : Sound b st) : Heads m (WL.synced st) := by
  obtain ⟨r, t, a, b, c⟩ := h.now hs
  exact Heads.sure a b c
theorem Heads.zero (m : Int) (hm : 0 ≤ m) : Heads m ⟨zero4, zero4, []⟩ := Heads.sure head_none (Int.le_refl _) hm
end Go.Proofs.Ytkiepnmbimkadaa.WL
end
section
namespace Go.Proofs.Ytkiepnmbimkadaa.WL
open Go.RowKit Go.Proofs.Ytkiepnmbimkadaa Go.Proofs.Ytkiepnmbimkadaa.DK Go.Proofs.Ytkiepnmbimkadaa.Pr Go.Proofs.Ytkiepnmbimkadaa.VP Go.Proofs.Ytkiepnmbimkadaa.VF Go.Proofs.Ytkiepnmbimkadaa.CF Go.Proofs.Ytkiepnmbimkadaa.WF
structure Inv (i : Nat) (st : St) (s : LSt) : Prop where
  sound : Sound (2 * i) st
  heads : Heads i st
  r0 : 0 ≤ s.round
  r1 : s.round ≤ i
  len : s.l.length ≤ 65536 + i
structure InvD (i : Nat) (st : St) : Prop where
  sound : Sound (2 * i) st
  heads : Heads i st
theorem Inv.disk {i : Nat} {st : St} {s : LSt} (h : Inv i st s) : InvD i st := ⟨h.sound, h.heads⟩
theorem Inv.mono {i j : Nat} {st : St} {s : LSt} (h : Inv i st s) (hj : i ≤ j) : Inv j st s := ⟨h.sound.mono (by omega), h.heads.mono (by omega), h.r0, by have := h.r1; omega, by have := h.len; omega⟩
theorem InvD.mono {i j : Nat} {st : St} (h : InvD i st) (hj : i ≤ j) : InvD j st := ⟨h.sound.mono (by omega), h.heads.mono (by omega)⟩
theorem Inv.append {i : Nat} {st : St} {s : LSt} (h : Inv i st s) (x : ByteArray) : Inv (i + 1) (appT st s x) (appL st s x) := by
  have h1 := h.r1
  have h2 := h.len
  unfold appT appL
  by_cases hb : x.size > 1024
  · rw [if_pos hb, if_pos hb]
    exact h.mono (Nat.le_succ _)
  · rw [if_neg hb, if_neg hb]
    refine ⟨(h.sound.append 1 _).mono (by omega), (h.heads.append _).mono (by omega), ?_, ?_, ?_⟩
    · split <;> exact h.r0
    · split <;> (show s.round ≤ _; omega)
    · split
      · show (s.l ++ [x]).length ≤ _
        rw [List.length_append]
        show s.l.length + 1 ≤ _
        omega
      · omega
theorem Inv.check {i : Nat} {st : St} {s : LSt} (h : Inv i st s) (hi : i ≤ 1000) (x : ByteArray) (hx : x.size ≤ 60) : Inv (i + 1) (chkT st s x) (chkL s x) := by
  have h1 := h.r1
  have h0 := h.r0
  unfold chkT chkL
  rw [if_neg (by omega), if_neg (by omega)]
  exact ⟨((h.sound.replace 0 _).replace 1 _).mono (by omega), (((h.heads.mono (by omega : (i : Int) ≤ ((i + 1 : Nat) : Int))).head (head_row (r := s.round + 1) (by omega) (by omega) x (by omega)) (by omega) (by omega)).replace _), by show 0 ≤ s.round + 1; omega, by show s.round + 1 ≤ _; omega, by show 0 ≤ _; omega⟩
theorem Inv.synced {i : Nat} {st : St} {s : LSt} (h : Inv i st s) : Inv i (synced st) s.synced := ⟨h.sound.sync, h.heads.synced h.sound, h.r0, h.r1, h.len⟩
theorem InvD.openE {i : Nat} {st : St} (h : InvD i st) : openE st = 0 := by
  obtain ⟨r, t, a, _⟩ := h.heads.now h.sound
  unfold WL.openE
  rw [a]
theorem InvD.opened {i : Nat} {st : St} (h : InvD i st) : Inv (i + 1) (openT st) (openL st) := by
  obtain ⟨r, t, a, b, c⟩ := h.heads.now h.sound
  have hz := h.sound.now_le 1
  have hab := allS_bd (s := st.n.at 1) (by omega)
  have hrb := recsS_bd (openR st) (b := 65536) (allS (st.n.at 1)).1 hab.2
  have hr : openR st = r := by unfold openR; rw [a]
  refine ⟨?_, ?_, ?_, ?_, ?_⟩
  · unfold openT
    split
    · exact (h.sound.sync).mono (by omega)
    · exact ((h.sound.replace 1 _).sync).mono (by omega)
  · unfold openT
    split
    · exact (h.heads.synced h.sound).mono (by omega)
    · exact ((h.heads.replace _).synced (h.sound.replace 1 _)).mono (by omega)
  · show 0 ≤ openR st
    omega
  · show openR st ≤ _
    omega
  · show (recsT st).length ≤ _
    unfold recsT
    omega
theorem Inv.zero : Inv 0 ⟨zero4, zero4, []⟩ ⟨0, ⟨#[]⟩, [], 0⟩ := ⟨Sound.zero 0, Heads.zero 0 (Int.le_refl _), Int.le_refl _, Int.le_refl _, Nat.zero_le _⟩
end Go.Proofs.Ytkiepnmbimkadaa.WL
end
