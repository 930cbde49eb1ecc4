import Derived.Test.YtkiepnmbimkadaaKRecovers47
section
namespace Go.Proofs.Ytkiepnmbimkadaa.WL
open Go.RowKit Go.Proofs.Ytkiepnmbimkadaa Go.Proofs.Ytkiepnmbimkadaa.DK Go.Proofs.Ytkiepnmbimkadaa.Pr Go.Proofs.Ytkiepnmbimkadaa.VP Go.Proofs.Ytkiepnmbimkadaa.VF Go.Proofs.Ytkiepnmbimkadaa.CF Go.Proofs.Ytkiepnmbimkadaa.WF Go.Proofs.Ytkiepnmbimkadaa.ML
structure Pc where
  F : Nat → Prop
  P : World → Prop
structure Lay (N : Nat) (w0 w : World) (L : List Pc) : Prop where
  hold : ∀ p ∈ L, p.P w
  foot : ∀ p ∈ L, Foot p.F p.P
  low : ∀ p ∈ L, ∀ k, p.F k → N ≤ k
  sep : L.Pairwise (fun p q => ∀ k, p.F k → ¬ q.F k)
  bel : Below N w0 w
  base : N ≤ w.heap.size
theorem Lay.below {N : Nat} {w0 w w2 : World} {L : List Pc} (h : Lay N w0 w L) (hb : Below w.heap.size w w2) : Lay N w0 w2 L :=
  ⟨fun p hp => (h.foot p hp).keep w w2 (h.hold p hp) (fun k g => hb.block k ((h.foot p hp).lt w (h.hold p hp) k g)), h.foot, h.low, h.sep, h.bel.trans (hb.mono h.base), Nat.le_trans h.base hb.size⟩
theorem Lay.drew {N : Nat} {w0 w : World} {L : List Pc} (h : Lay N w0 w L) : Lay N w0 w.drew L := h.below (Below.refl _ _).drew
theorem Lay.head {N : Nat} {w0 w w2 : World} {p : Pc} {L : List Pc} (h : Lay N w0 w (p :: L)) {F2 : Nat → Prop} {P2 : World → Prop} (hK : KeepsF w w2 p.F) (hp : P2 w2) (hf : Foot F2 P2) (hs : ∀ k, F2 k → p.F k ∨ w.heap.size ≤ k) : Lay N w0 w2 (⟨F2, P2⟩ :: L) := by
  obtain ⟨hsep, hsep2⟩ := List.pairwise_cons.1 h.sep
  have hlow := h.low p (by simp)
  refine ⟨fun q hq => ?_, fun q hq => ?_, fun q hq k g => ?_, List.pairwise_cons.2 ⟨fun q hq k f g => ?_, hsep2⟩, hK.bel h.bel h.base hlow, Nat.le_trans h.base hK.size⟩
  · rcases List.mem_cons.1 hq with rfl | hq
    · exact hp
    · have hm := List.mem_cons_of_mem p hq
      exact (h.foot q hm).keep w w2 (h.hold q hm) (fun k g => hK.block k ((h.foot q hm).lt w (h.hold q hm) k g) (fun f => hsep q hq k f g))
  · rcases List.mem_cons.1 hq with rfl | hq
    · exact hf
    · exact h.foot q (List.mem_cons_of_mem p hq)
  · rcases List.mem_cons.1 hq with rfl | hq
    · rcases hs k g with e | e
      · exact hlow k e
      · exact Nat.le_trans h.base e
    · exact h.low q (List.mem_cons_of_mem p hq) k g
  · rcases hs k f with e | e
    · exact hsep q hq k e g
    · have hm := List.mem_cons_of_mem p hq
      have := (h.foot q hm).lt w (h.hold q hm) k g
      omega
theorem Lay.turn {N : Nat} {w0 w : World} {p : Pc} {L : List Pc} (h : Lay N w0 w (p :: L)) : Lay N w0 w (L ++ [p]) := by
  have hm : ∀ q, q ∈ L ++ [p] → q ∈ p :: L := fun q hq => by
    rcases List.mem_append.1 hq with hq | hq
    · exact List.mem_cons_of_mem p hq
    · simp at hq
      simp [hq]
  obtain ⟨hsep, hsep2⟩ := List.pairwise_cons.1 h.sep
  refine ⟨fun q hq => h.hold q (hm q hq), fun q hq => h.foot q (hm q hq), fun q hq => h.low q (hm q hq), List.pairwise_append.2 ⟨hsep2, List.pairwise_singleton _ _, fun a ha b hb k f g => ?_⟩, h.bel, h.base⟩
  simp at hb
  subst hb
  exact hsep a ha k g f
theorem Lay.new {N : Nat} {w0 w w2 : World} {L : List Pc} (h : Lay N w0 w L) {F : Nat → Prop} {P : World → Prop} (hb : Below w.heap.size w w2) (hp : P w2) (hf : Foot F P) (hs : ∀ k, F k → w.heap.size ≤ k) : Lay N w0 w2 (⟨F, P⟩ :: L) := by
  have h2 := h.below hb
  refine ⟨fun q hq => ?_, fun q hq => ?_, fun q hq k g => ?_, List.pairwise_cons.2 ⟨fun q hq k f g => ?_, h.sep⟩, h2.bel, h2.base⟩
  · rcases List.mem_cons.1 hq with rfl | hq
    · exact hp
    · exact h2.hold q hq
  · rcases List.mem_cons.1 hq with rfl | hq
    · exact hf
    · exact h.foot q hq
  · rcases List.mem_cons.1 hq with rfl | hq
    · exact Nat.le_trans h.base (hs k g)
    · exact h.low q hq k g
  · have := (h.foot q hq).lt w (h.hold q hq) k g
    have := hs k f
    omega
theorem Lay.drop {N : Nat} {w0 w : World} {p : Pc} {L : List Pc} (h : Lay N w0 w (p :: L)) : Lay N w0 w L :=
  ⟨fun q hq => h.hold q (List.mem_cons_of_mem p hq), fun q hq => h.foot q (List.mem_cons_of_mem p hq), fun q hq => h.low q (List.mem_cons_of_mem p hq), (List.pairwise_cons.1 h.sep).2, h.bel, h.base⟩
theorem Lay.nil {N : Nat} {w0 w : World} (hb : Below N w0 w) (hN : N ≤ w.heap.size) : Lay N w0 w [] := ⟨fun p hp => by simp at hp, fun p hp => by simp at hp, fun p hp => by simp at hp, List.Pairwise.nil, hb, hN⟩
abbrev pLog (A : Nat) (W : Value) (L : Nat) (V : Value) (st : St) (s : LSt) : Pc := ⟨InF A W L V, fun w => PL own LT w A W L V st s⟩
abbrev pDisk (A : Nat) (W : Value) (st : St) : Pc := ⟨InD A W, fun w => own.D w A W st⟩
abbrev pRow (N : Nat) (e : TypeId) (v : Value) (xs : List Value) : Pc := ⟨InV v, fun w => w.ownsRow N e 1 v xs.length xs⟩
abbrev pOps (N : Nat) (v : Value) (l : List OpM) : Pc := ⟨InV v, fun w => OpsAt w N v l⟩
section
variable {N : Nat} {w0 w w2 : World} {M : List Pc} {A L : Nat} {W V v : Value} {st st2 : St} {s s2 : LSt} {l : List OpM} {e : TypeId} {xs : List Value}
theorem Lay.pl (h : Lay N w0 w (pLog A W L V st s :: M)) : PL own LT w A W L V st s := h.hold (pLog A W L V st s) (by simp)
theorem Lay.dsk (h : Lay N w0 w (pDisk A W st :: M)) : At w A W st.n st.k st.l := h.hold (pDisk A W st) (by simp)
theorem Lay.row (h : Lay N w0 w (pRow N e v xs :: M)) : w.ownsRow N e 1 v xs.length xs := h.hold (pRow N e v xs) (by simp)
theorem Lay.ops (h : Lay N w0 w (pOps N v l :: M)) : OpsAt w N v l := h.hold (pOps N v l) (by simp)
theorem Lay.step (h : Lay N w0 w (pLog A W L V st s :: M)) (hs : Step own LT w w2 A W L V st2 s2) : ∃ W2 V2, Lay N w0 w2 (pLog A W2 L V2 st2 s2 :: M) := by
  obtain ⟨W2, V2, a, b, c⟩ := hs
  exact ⟨W2, V2, h.head b a (PL.foot ..) c⟩
theorem Lay.toD (h : Lay N w0 w (pLog A W L V st s :: M)) : Lay N w0 w (pDisk A W st :: M) :=
  h.head (KeepsF.refl _ _) h.pl.disk (Kind.foot ..) (fun k g => .inl (g.imp id .inl))
theorem Lay.disk (h : Lay N w0 w (pDisk A W st :: M)) {W2 : Value} (hD : own.D w2 A W2 st2) (hk : Keeps w w2 A W) (hW : W2.ownBlock = W.ownBlock ∨ ∀ b, W2.ownBlock = some b → w.heap.size ≤ b) : Lay N w0 w2 (pDisk A W2 st2 :: M) :=
  h.head (KeepsF.of_keeps hk (.inl rfl) (fun k e => .inr e)) hD (Kind.foot ..) (fun k g => by
    rcases g with g | g
    · exact .inl (.inl g)
    · rcases hW with e | e
      · exact .inl (.inr (by rw [← e]; exact g))
      · exact .inr (e k g))
theorem Lay.opened (h : Lay N w0 w (pDisk A W st :: M)) (ho : Opened own LT w w2 A W L st2 s2) : ∃ W2 V2, Lay N w0 w2 (pLog A W2 L V2 st2 s2 :: M) := by
  obtain ⟨W2, V2, a, b, c, _⟩ := ho
  exact ⟨W2, V2, h.head b a (PL.foot ..) c⟩
theorem Lay.push (h : Lay N w0 w (pRow N e v xs :: M)) {o : Obj} {w5 : World} {v5 x : Value} (hg : (w.alloc o).grownBy w5 v.ownBlock) (hown : w5.ownsRow N e 1 v5 (xs.length + 1) (xs ++ [x])) (hat : v5.ownBlock = v.ownBlock ∨ v5.ownBlock = some (w.alloc o).heap.size) : Lay N w0 w5 (pRow N e v5 (xs ++ [x]) :: M) :=
  h.head (grown_keeps hg) (by show w5.ownsRow N e 1 v5 (xs ++ [x]).length (xs ++ [x]); rw [List.length_append]; exact hown) (row_foot ..) (fun k g => by
    rcases hat with e | e
    · exact .inl (by show v.ownBlock = some k; rw [← e]; exact g)
    · right
      have g2 : v5.ownBlock = some k := g
      rw [e] at g2
      simp at g2
      omega)
end
structure RowsAt (N : Nat) (w : World) (v : Value) (vs : List Value) (rs : List (List ByteArray)) : Prop where
  row : w.ownsRow N 30 1 v vs.length vs
  len : vs.length = rs.length
  each : ∀ (a : Nat) (h : a < rs.length), ∃ o c, vs[a]? = some (.slice o (rs[a]'h).length c) ∧ w.ownsRow N 9 1 (.slice o (rs[a]'h).length c) (rs[a]'h).length ((rs[a]'h).map Value.string)
  off : ∀ u ∈ vs, ∀ k, InV u k → ¬ InV v k
def InRows (v : Value) (vs : List Value) (k : Nat) : Prop := InV v k ∨ ∃ u ∈ vs, InV u k
theorem RowsAt.foot (N : Nat) (v : Value) (vs : List Value) (rs : List (List ByteArray)) : Foot (InRows v vs) (fun w => RowsAt N w v vs rs) := by
  refine ⟨fun w h k g => ?_, fun w w2 h hk => ⟨row_moved h.row (fun k e => hk k (.inl e)), h.len, fun a ha => ?_, h.off⟩⟩
  · rcases g with g | ⟨u, hu, g⟩
    · exact (h.row.lt k g).2
    · obtain ⟨a, ha, rfl⟩ := List.getElem_of_mem hu
      obtain ⟨o, c, e1, e2⟩ := h.each a (by rw [← h.len]; exact ha)
      rw [List.getElem?_eq_getElem ha] at e1
      injection e1 with e1
      unfold InV at g
      rw [e1] at g
      exact (e2.lt k g).2
  · obtain ⟨o, c, e1, e2⟩ := h.each a ha
    exact ⟨o, c, e1, row_moved e2 (fun k e => hk k (.inr ⟨_, List.mem_of_getElem? e1, e⟩))⟩
abbrev pRows (N : Nat) (v : Value) (vs : List Value) (rs : List (List ByteArray)) : Pc := ⟨InRows v vs, fun w => RowsAt N w v vs rs⟩
theorem Lay.rows {N : Nat} {w0 w : World} {M : List Pc} {v : Value} {vs : List Value} {rs : List (List ByteArray)} (h : Lay N w0 w (pRows N v vs rs :: M)) : RowsAt N w v vs rs := h.hold (pRows N v vs rs) (by simp)
theorem Lay.pushRows {N : Nat} {w0 w w4 w5 : World} {M : List Pc} {v v5 : Value} {vs : List Value} {rs : List (List ByteArray)} (h : Lay N w0 w (pRows N v vs rs :: M)) {l : List ByteArray} {o : Option Addr} {c : Nat} (hb : Below w.heap.size w w4) (hr : w4.ownsRow w.heap.size 9 1 (.slice o l.length c) l.length (l.map Value.string))
    (hg : (w4.alloc (.cells #[.slice o l.length c] 30)).grownBy w5 v.ownBlock) (hown : w5.ownsRow N 30 1 v5 (vs.length + 1) (vs ++ [.slice o l.length c])) (hat : v5.ownBlock = v.ownBlock ∨ v5.ownBlock = some (w4.alloc (.cells #[.slice o l.length c] 30)).heap.size) : Lay N w0 w5 (pRows N v5 (vs ++ [.slice o l.length c]) (rs ++ [l]) :: M) := by
  have hR := h.rows
  have hN := h.base
  have hs4 := hb.size
  have hvl := fun k e => (hR.row.lt k e).2
  have hel : ∀ u ∈ vs, ∀ k, InV u k → k < w.heap.size := fun u hu k g => (RowsAt.foot N v vs rs).lt w hR k (.inr ⟨u, hu, g⟩)
  have hnl : ∀ k, InV (.slice o l.length c) k → w.heap.size ≤ k ∧ k < w4.heap.size := fun k g => hr.lt k g
  have hblk : ∀ k, k < w4.heap.size → v.ownBlock ≠ some k → w5.heap[k]? = w4.heap[k]? := fun k hk hn => (hg.block k (by simp; omega) (fun e => hn e.symm)).trans (Below.heap_alloc _ _ _ hk)
  have hK : KeepsF w w5 (InRows v vs) := ⟨hg.os.trans hb.os, hg.tape.trans hb.tape, hg.output.trans hb.output, by have := hg.size; simp at this; omega, fun k hk hn => (hblk k (by omega) (fun e => hn (.inl e))).trans (hb.block k hk)⟩
  have hv5 : ∀ k, InV v5 k → InV v k ∨ w4.heap.size + 1 = k := fun k g => by
    rcases hat with e | e
    · exact .inl (by unfold InV at *; rw [← e]; exact g)
    · right
      unfold InV at g
      rw [e] at g
      simpa using g
  refine h.head hK ⟨by rw [List.length_append]; exact hown, by rw [List.length_append, List.length_append, hR.len]; rfl, fun a ha => ?_, fun u hu k g g5 => ?_⟩ (RowsAt.foot ..) (fun k g => ?_)
  · by_cases hlt : a < rs.length
    · obtain ⟨o2, c2, e1, e2⟩ := hR.each a hlt
      have ea : (rs ++ [l])[a]'ha = rs[a]'hlt := List.getElem_append_left hlt
      rw [ea]
      have hav : a < vs.length := by rw [hR.len]; exact hlt
      refine ⟨o2, c2, by rw [List.getElem?_append_left hav]; exact e1, row_moved e2 (fun k g => ?_)⟩
      have hk := (e2.lt k g).2
      exact (hblk k (by omega) (fun e => hR.off _ (List.mem_of_getElem? e1) k g e)).trans (hb.block k hk)
    · have ea : a = rs.length := by rw [List.length_append] at ha; simp at ha; omega
      subst ea
      have eb : (rs ++ [l])[rs.length]'ha = l := by simp
      rw [eb]
      refine ⟨o, c, by rw [← hR.len]; simp, row_moved (row_base hr hN) (fun k g => hblk k (hnl k g).2 (fun e => ?_))⟩
      have := (hnl k g).1
      have := hvl k e
      omega
  · rcases List.mem_append.1 hu with hu | hu
    · rcases hv5 k g5 with e | e
      · exact hR.off u hu k g e
      · have := hel u hu k g
        omega
    · simp at hu
      subst hu
      have h1 := hnl k g
      rcases hv5 k g5 with e | e
      · have := hvl k e
        omega
      · omega
  · rcases g with g | ⟨u, hu, g⟩
    · rcases hv5 k g with e | e
      · exact .inl (.inl e)
      · right; omega
    · rcases List.mem_append.1 hu with hu | hu
      · exact .inl (.inr ⟨u, hu, g⟩)
      · simp at hu
        subst hu
        exact .inr (hnl k g).1
end Go.Proofs.Ytkiepnmbimkadaa.WL
end
section
namespace Go.Proofs.Ytkiepnmbimkadaa.WL
open Go.RowKit Go.Proofs.Ytkiepnmbimkadaa Go.Proofs.Ytkiepnmbimkadaa.DK Go.Proofs.Ytkiepnmbimkadaa.Pr Go.Proofs.Ytkiepnmbimkadaa.VP Go.Proofs.Ytkiepnmbimkadaa.VF Go.Proofs.Ytkiepnmbimkadaa.CF Go.Proofs.Ytkiepnmbimkadaa.WF
structure Hx where
  st : ByteArray
  l : List ByteArray
  u : Nat
structure HInv (i : Nat) (st : St) (s : LSt) (hs : List Hx) : Prop where
  sound : Sound (2 * i) st
  r0 : 0 ≤ s.round
  r1 : s.round ≤ i
  len : s.l.length ≤ i
  small : ∀ x ∈ s.l, x.size ≤ 60
  head : headS (st.n.at 0) = (s.round, s.state, 0)
  one : st.n.at 1 = textS s.round s.l
  le : ∀ h ∈ hs, h.u ≤ unitsOf st.l
  last : ∃ h0 u, hs = h0 ++ [⟨s.state, s.l, u⟩]
  first : ∃ h, hs[0]? = some h ∧ h.u = 0
  tell : ∀ u, u ≤ unitsOf st.l → ∀ a h, hs[a]? = some h → h.u ≤ u → (∀ g, hs[a + 1]? = some g → u < g.u) → ∃ r, Tells (stays st.l u st.k) ⟨r, h.st, h.l, 0⟩
theorem HInv.size {i : Nat} {st : St} {s : LSt} {hs : List Hx} (h : HInv i st s hs) : (textS s.round s.l).size ≤ i * 82 := Nat.le_trans (textS_size s.round s.l (b := 60) h.small) (Nat.mul_le_mul h.len (Nat.le_refl _))
theorem HInv.zero : HInv 0 ⟨zero4, zero4, []⟩ ⟨0, ⟨#[]⟩, [], 0⟩ [⟨⟨#[]⟩, [], 0⟩] := by
  refine ⟨Sound.zero 0, Int.le_refl _, Int.le_refl _, Nat.le_refl _, (fun x hx => by simp at hx), head_none, rfl, (fun h hh => by simp at hh; subst hh; exact Nat.le_refl _), ⟨[], 0, rfl⟩, ⟨_, rfl, rfl⟩, fun u hu a h ha _ _ => ?_⟩
  match a, ha with
  | 0, ha =>
    injection ha with ha
    subst ha
    exact ⟨0, Tells.zero⟩
  | a + 1, ha => simp at ha
theorem HInv.now {i : Nat} {st : St} {s : LSt} {hs : List Hx} (h : HInv i st s hs) (hi : i ≤ 40) : Tells st.n ⟨s.round, s.state, s.l, 0⟩ := by
  have hz := h.size
  have h1 := h.r1
  exact Tells.whole h.r0 (by omega) h.head (fun y hy => by have := h.small y hy; omega) h.one (by rw [h.one]; omega)
theorem HInv.synced {i : Nat} {st : St} {s : LSt} {hs : List Hx} (h : HInv i st s hs) (hi : i ≤ 40) : HInv (i + 1) (synced st) s.synced [⟨s.state, s.l, 0⟩] := by
  have h1 := h.r1
  have h2 := h.len
  refine ⟨h.sound.sync.mono (by omega), h.r0, by show s.round ≤ _; omega, by show s.l.length ≤ _; omega, h.small, h.head, h.one, (fun g hg => by simp at hg; subst hg; exact Nat.le_refl _), ⟨[], 0, rfl⟩, ⟨_, rfl, rfl⟩, fun u hu a g ha _ _ => ?_⟩
  match a, ha with
  | 0, ha =>
    injection ha with ha
    subst ha
    exact ⟨s.round, h.now hi⟩
  | a + 1, ha => simp at ha
theorem stays_more (l : List Wr) (m : List Wr) (u : Nat) (k : Four) (h : u ≤ unitsOf l) : stays (l ++ m) u k = stays l u k := by
  rw [stays_append, Nat.sub_eq_zero_of_le h, stays_zero]
theorem stays_past {b : Nat} {st : St} (hs : Sound b st) (m : List Wr) (u : Nat) (h : unitsOf st.l ≤ u) : stays (st.l ++ m) u st.k = stays m (u - unitsOf st.l) st.n := by
  rw [stays_append, stays_full st.l u st.k h, hs.now]
theorem get_snoc {hs : List Hx} {x : Hx} {a : Nat} {h : Hx} (ha : (hs ++ [x])[a]? = some h) : hs[a]? = some h ∧ a < hs.length ∨ a = hs.length ∧ h = x := by
  by_cases hl : a < hs.length
  · rw [List.getElem?_append_left hl] at ha
    exact .inl ⟨ha, hl⟩
  · rw [List.getElem?_append_right (by omega)] at ha
    by_cases e : a - hs.length = 0
    · rw [e] at ha
      simp at ha
      exact .inr ⟨by omega, ha.symm⟩
    · obtain ⟨n, hn⟩ : ∃ n, a - hs.length = n + 1 := ⟨a - hs.length - 1, by omega⟩
      rw [hn] at ha
      simp at ha
theorem snoc_last {h0 : List Hx} {x y : Hx} {a : Nat} (hl : a = (h0 ++ [y]).length - 1) : (h0 ++ [y])[a]? = some y := by
  rw [List.length_append] at hl
  simp at hl
  subst hl
  simp
theorem HInv.append {i : Nat} {st : St} {s : LSt} {hs : List Hx} (h : HInv i st s hs) (hi : i ≤ 40) (x : ByteArray) (hx : x.size ≤ 60) :
    HInv (i + 1) ⟨st.n.to 1 (st.n.at 1 ++ rowB s.round x), st.k, st.l ++ [⟨false, 1, rowB s.round x⟩]⟩ ⟨s.round, s.state, s.l ++ [x], s.sure⟩ (hs ++ [⟨s.state, s.l ++ [x], unitsOf st.l + (rowB s.round x).size⟩]) := by
  have h1 := h.r1
  have h2 := h.len
  have hz := h.size
  have hrz := rowB_size s.round x
  have hone : (st.n.at 1).size ≤ i * 82 := by rw [h.one]; exact hz
  have ha : appendS st.n 1 (rowB s.round x) = 0 := app_yes (by omega) (by omega)
  have hsd := h.sound.append 1 (rowB s.round x)
  unfold appendT at hsd
  rw [if_pos ha] at hsd
  have hU : unitsOf (st.l ++ [⟨false, 1, rowB s.round x⟩]) = unitsOf st.l + (rowB s.round x).size := by rw [unitsOf_append]; rfl
  have e0 : (st.n.to 1 (st.n.at 1 ++ rowB s.round x)).at 0 = st.n.at 0 := by rw [at_to, if_neg (by omega)]
  have e1 : (st.n.to 1 (st.n.at 1 ++ rowB s.round x)).at 1 = textS s.round (s.l ++ [x]) := by rw [at_to, if_pos (by omega), h.one, textS_snoc]
  have hsm : ∀ y ∈ s.l ++ [x], y.size ≤ 60 := by
    intro y hy
    rcases List.mem_append.1 hy with hy | hy
    · exact h.small y hy
    · simp at hy
      subst hy
      exact hx
  obtain ⟨h0, lu, hlast⟩ := h.last
  refine ⟨hsd.mono (by omega), h.r0, by show s.round ≤ _; omega, by rw [List.length_append]; show s.l.length + 1 ≤ _; omega, hsm, by rw [e0]; exact h.head, e1, ?_, ⟨hs, _, rfl⟩, ?_, ?_⟩
  · intro g hg
    show g.u ≤ unitsOf (st.l ++ _)
    rw [hU]
    rcases List.mem_append.1 hg with hg | hg
    · have := h.le g hg
      omega
    · simp at hg
      subst hg
      exact Nat.le_refl _
  · obtain ⟨f, hf, hf0⟩ := h.first
    exact ⟨f, by rw [List.getElem?_append_left (by obtain ⟨hl, _⟩ := List.getElem?_eq_some_iff.1 hf; exact hl)]; exact hf, hf0⟩
  · intro u hu a g hg hgu hnx
    have hu2 : u ≤ unitsOf (st.l ++ [⟨false, 1, rowB s.round x⟩]) := hu
    rw [hU] at hu2
    rcases get_snoc hg with ⟨hg, hal⟩ | ⟨hal, rfl⟩
    · by_cases hle : u ≤ unitsOf st.l
      · show ∃ r, Tells (stays (st.l ++ _) u st.k) _
        rw [stays_more _ _ _ _ hle]
        exact h.tell u hle a g hg hgu (fun g2 hg2 => hnx g2 (by rw [List.getElem?_append_left (by obtain ⟨hl, _⟩ := List.getElem?_eq_some_iff.1 hg2; exact hl)]; exact hg2))
      · have hlst : a + 1 = hs.length := by
          rcases Nat.lt_or_ge (a + 1) hs.length with hlt | hge
          · have hm := h.le (hs[a + 1]'hlt) (List.getElem_mem hlt)
            have := hnx (hs[a + 1]'hlt) (by rw [List.getElem?_append_left hlt, List.getElem?_eq_getElem hlt])
            omega
          · omega
        have hu3 : u < unitsOf st.l + (rowB s.round x).size := hnx ⟨s.state, s.l ++ [x], unitsOf st.l + (rowB s.round x).size⟩ (by rw [hlst]; simp)
        have hgl : g = ⟨s.state, s.l, lu⟩ := by
          have := snoc_last (h0 := h0) (x := g) (y := ⟨s.state, s.l, lu⟩) (a := a) (by rw [← hlast]; omega)
          rw [← hlast, hg] at this
          exact Option.some.inj this
        subst hgl
        show ∃ r, Tells (stays (st.l ++ _) u st.k) _
        rw [stays_past h.sound _ _ (by omega), stays_on (by simp)]
        have em : min (u - unitsOf st.l) (Wr.units ⟨false, 1, rowB s.round x⟩) = u - unitsOf st.l := by
          show min _ (rowB s.round x).size = _
          omega
        rw [em]
        refine ⟨s.round, ?_⟩
        show Tells (st.n.to 1 (st.n.at 1 ++ (rowB s.round x).extract 0 (u - unitsOf st.l))) ⟨s.round, s.state, s.l, 0⟩
        have ez : ((st.n.at 1 ++ (rowB s.round x).extract 0 (u - unitsOf st.l))).size ≤ 65536 := by
          rw [ByteArray.size_append, ByteArray.size_extract]
          omega
        exact ⟨h.r0, (by show s.round ≤ _; omega), by rw [at_to, if_neg (by omega)]; exact h.head, s.round, s.l, x, u - unitsOf st.l, h.r0, by omega, (fun y hy => by have := h.small y hy; omega), by omega, by omega, by rw [at_to, if_pos (by omega), h.one], by rw [at_to, if_pos (by omega)]; exact ez, .inl ⟨rfl, rfl⟩⟩
    · have hgu2 : unitsOf st.l + (rowB s.round x).size ≤ u := hgu
      have hue : u = unitsOf (st.l ++ [⟨false, 1, rowB s.round x⟩]) := by omega
      subst hue
      have hnow := hsd.now
      refine ⟨s.round, ?_⟩
      show Tells (stays (st.l ++ _) _ st.k) _
      have hnow2 : stays (st.l ++ [⟨false, 1, rowB s.round x⟩]) (unitsOf (st.l ++ [⟨false, 1, rowB s.round x⟩])) st.k = st.n.to 1 (st.n.at 1 ++ rowB s.round x) := hnow
      rw [hnow2]
      exact Tells.whole h.r0 (by omega) (by rw [e0]; exact h.head) (fun y hy => by have := hsm y hy; omega) e1 (hsd.now_le 1)
theorem HInv.check {i : Nat} {st : St} {s : LSt} {hs : List Hx} (h : HInv i st s hs) (hi : i ≤ 40) (x : ByteArray) (hx : x.size ≤ 60) :
    HInv (i + 1) ⟨(st.n.to 0 (rowB (s.round + 1) x)).to 1 ⟨#[]⟩, st.k, st.l ++ [⟨true, 0, rowB (s.round + 1) x⟩, ⟨true, 1, ⟨#[]⟩⟩]⟩ ⟨s.round + 1, x, [], 0⟩ (hs ++ [⟨x, [], unitsOf st.l + 1⟩]) := by
  have h0r := h.r0
  have h1 := h.r1
  have hz := h.size
  have hrz := rowB_size (s.round + 1) x
  have hsd : Sound (2 * i + 2) ⟨(st.n.to 0 (rowB (s.round + 1) x)).to 1 ⟨#[]⟩, st.k, st.l ++ [⟨true, 0, rowB (s.round + 1) x⟩, ⟨true, 1, ⟨#[]⟩⟩]⟩ := by
    have hq := (h.sound.replace 0 (rowB (s.round + 1) x)).replace 1 ⟨#[]⟩
    have e : replaceT (replaceT st 0 (rowB (s.round + 1) x)) 1 ⟨#[]⟩ = ⟨(st.n.to 0 (rowB (s.round + 1) x)).to 1 ⟨#[]⟩, st.k, st.l ++ [⟨true, 0, rowB (s.round + 1) x⟩, ⟨true, 1, ⟨#[]⟩⟩]⟩ := by
      unfold replaceT
      rw [if_pos (rep_yes (i := 0) (s := rowB (s.round + 1) x) (by omega) (by omega)), if_pos (rep_yes (i := 1) (s := ⟨#[]⟩) (by omega) (by decide))]
      simp only [List.append_assoc]
      rfl
    rw [e] at hq
    exact hq
  have hU : unitsOf (st.l ++ [⟨true, 0, rowB (s.round + 1) x⟩, ⟨true, 1, ⟨#[]⟩⟩]) = unitsOf st.l + 2 := by rw [unitsOf_append]; rfl
  have htc := tells_checked st.n (r := s.round + 1) (by omega) (by omega) x hx 0
  have e0 : ((st.n.to 0 (rowB (s.round + 1) x)).to 1 ⟨#[]⟩).at 0 = rowB (s.round + 1) x := by rw [at_to, if_neg (by omega), at_to, if_pos (by omega)]
  have e1 : ((st.n.to 0 (rowB (s.round + 1) x)).to 1 ⟨#[]⟩).at 1 = ⟨#[]⟩ := by rw [at_to, if_pos (by omega)]
  refine ⟨hsd.mono (by omega), by show 0 ≤ s.round + 1; omega, by show s.round + 1 ≤ _; omega, Nat.zero_le _, (fun y hy => by simp at hy), by rw [e0]; exact head_row (by omega) (by omega) x (by omega), e1, ?_, ⟨hs, _, rfl⟩, ?_, ?_⟩
  · intro g hg
    show g.u ≤ unitsOf (st.l ++ _)
    rw [hU]
    rcases List.mem_append.1 hg with hg | hg
    · have := h.le g hg
      omega
    · simp at hg
      subst hg
      show unitsOf st.l + 1 ≤ _
      omega
  · obtain ⟨f, hf, hf0⟩ := h.first
    exact ⟨f, by rw [List.getElem?_append_left (by obtain ⟨hl, _⟩ := List.getElem?_eq_some_iff.1 hf; exact hl)]; exact hf, hf0⟩
  · intro u hu a g hg hgu hnx
    have hu2 : u ≤ unitsOf (st.l ++ [⟨true, 0, rowB (s.round + 1) x⟩, ⟨true, 1, ⟨#[]⟩⟩]) := hu
    rw [hU] at hu2
    rcases get_snoc hg with ⟨hg, hal⟩ | ⟨hal, rfl⟩
    · have hle : u ≤ unitsOf st.l := by
        rcases Nat.lt_or_ge (a + 1) hs.length with hlt | hge
        · have hm := h.le (hs[a + 1]'hlt) (List.getElem_mem hlt)
          have := hnx (hs[a + 1]'hlt) (by rw [List.getElem?_append_left hlt, List.getElem?_eq_getElem hlt])
          omega
        · have hlst : a + 1 = hs.length := by omega
          have hu3 : u < unitsOf st.l + 1 := hnx ⟨x, [], unitsOf st.l + 1⟩ (by rw [hlst]; simp)
          omega
      show ∃ r, Tells (stays (st.l ++ _) u st.k) _
      rw [stays_more _ _ _ _ hle]
      exact h.tell u hle a g hg hgu (fun g2 hg2 => hnx g2 (by rw [List.getElem?_append_left (by obtain ⟨hl, _⟩ := List.getElem?_eq_some_iff.1 hg2; exact hl)]; exact hg2))
    · have hgu2 : unitsOf st.l + 1 ≤ u := hgu
      refine ⟨s.round + 1, ?_⟩
      show Tells (stays (st.l ++ _) u st.k) ⟨s.round + 1, x, [], 0⟩
      rw [stays_past h.sound _ _ (by omega)]
      by_cases he : u = unitsOf st.l + 1
      · rw [he, show unitsOf st.l + 1 - unitsOf st.l = 1 by omega]
        show Tells (st.n.to 0 (rowB (s.round + 1) x)) _
        have f0 : (st.n.to 0 (rowB (s.round + 1) x)).at 0 = rowB (s.round + 1) x := by rw [at_to, if_pos (by omega)]
        have f1 : (st.n.to 0 (rowB (s.round + 1) x)).at 1 = st.n.at 1 := by rw [at_to, if_neg (by omega)]
        exact ⟨(by show 0 ≤ s.round + 1; omega), (by show s.round + 1 ≤ _; omega), by rw [f0]; exact head_row (by omega) (by omega) x (by omega), s.round, s.l, ⟨#[]⟩, 0, h.r0, by omega, (fun y hy => by have := h.small y hy; omega), by decide, by have := rowB_size s.round ⟨#[]⟩; omega, by rw [f1, row_none, app_nil]; exact h.one, by rw [f1]; exact h.sound.now_le 1, .inr ⟨by show s.round ≠ s.round + 1; omega, rfl⟩⟩
      · rw [show u - unitsOf st.l = 2 by omega]
        exact htc
end Go.Proofs.Ytkiepnmbimkadaa.WL
end
