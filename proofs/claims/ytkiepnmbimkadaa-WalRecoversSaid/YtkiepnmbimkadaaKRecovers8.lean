import Derived.Test.YtkiepnmbimkadaaKRecovers7
section
namespace Go.Proofs.Ytkiepnmbimkadaa.DK
open Go.RowKit Go.Proofs.Ytkiepnmbimkadaa
theorem At.keeps {w w' : World} {A B : Nat} {W V : Value} {n k : Four} {l : List Wr} (ho : At w B V n k l) (hK : Keeps w w' A W) (h1 : B ≠ A) (h2 : V.ownBlock ≠ some A) (h3 : W.ownBlock ≠ some B) (h4 : ∀ b, V.ownBlock = some b → W.ownBlock ≠ some b) : At w' B V n k l := by
  refine ⟨(hK.block B ho.lt h1 h3).trans ho.cells, ⟨ho.row.1, ?_⟩, ho.apart⟩
  rcases ho.row.2 with h | ⟨g, cap, cur, rfl, hb, hg, r⟩
  · exact .inl h
  · refine .inr ⟨g, cap, cur, rfl, hb, ?_, r⟩
    have hl : g < w.heap.size := (Array.getElem?_eq_some_iff.1 hg).1
    rw [hK.block g hl (fun e => h2 (by rw [← e]; rfl)) (h4 g rfl)]
    exact hg
theorem At.new (w : World) : At (w.alloc (.cells (cellsOf zero4 zero4 (.slice none 0 0)) 61)) w.heap.size (.slice none 0 0) zero4 zero4 [] := ⟨heap_alloc_new w _, World.ownsRow_nil _ _ _ _, by simp [Value.ownBlock]⟩
theorem at_le (n : Four) {b : Nat} (h0 : n.a.size ≤ b) (h1 : n.b.size ≤ b) (h2 : n.c.size ≤ b) (h3 : n.d.size ≤ b) (i : Int) : (n.at i).size ≤ b := by
  unfold Four.at
  (repeat' split) <;> first | assumption | exact Nat.zero_le _
theorem Keeps.bel {w w1 w2 : World} {N A : Nat} {W : Value} (hK : Keeps w1 w2 A W) (hb : Below N w w1) (hN : N ≤ w1.heap.size) (hA : N ≤ A) (hW : ∀ b, W.ownBlock = some b → N ≤ b) : Below N w w2 :=
  ⟨hK.os.trans hb.os, hK.tape.trans hb.tape, hK.output.trans hb.output, Nat.le_trans hb.size hK.size, fun k hk => (hK.block k (by omega) (by omega) (fun e => by have := hW k e; omega)).trans (hb.block k hk)⟩
structure Own (N : Nat) (w0 w : World) (A : Nat) (W : Value) (n k : Four) (l : List Wr) : Prop where
  at_ : At w A W n k l
  bel : Below N w0 w
  base : N ≤ w.heap.size
  low : N ≤ A
  row : ∀ b, W.ownBlock = some b → N ≤ b
theorem Own.nil {N : Nat} {w0 w w' : World} {A : Nat} {W : Value} {n k n' k' : Four} {l l' : List Wr} (h : Own N w0 w A W n k l) (ha : At w' A (.slice none 0 0) n' k' l') (hK : Keeps w w' A W) : Own N w0 w' A (.slice none 0 0) n' k' l' :=
  ⟨ha, hK.bel h.bel h.base h.low h.row, Nat.le_trans h.base hK.size, h.low, fun b hb => by simp [Value.ownBlock] at hb⟩
theorem Own.below {N : Nat} {w0 w w' : World} {A : Nat} {W : Value} {n k : Four} {l : List Wr} (h : Own N w0 w A W n k l) (hb : Below w.heap.size w w') : Own N w0 w' A W n k l :=
  ⟨h.at_.below hb, h.bel.trans (hb.mono h.base), Nat.le_trans h.base hb.size, h.low, h.row⟩
theorem Own.new (w : World) : Own w.heap.size w (w.alloc (.cells (cellsOf zero4 zero4 (.slice none 0 0)) 61)) w.heap.size (.slice none 0 0) zero4 zero4 [] :=
  ⟨At.new w, (Below.refl _ _).alloc (Nat.le_refl _) _, by simp, Nat.le_refl _, fun b hb => by simp [Value.ownBlock] at hb⟩
end Go.Proofs.Ytkiepnmbimkadaa.DK
end
section
namespace Go.Proofs.Ytkiepnmbimkadaa.DK
open Go.RowKit Go.Proofs.Ytkiepnmbimkadaa
theorem extract_none (s : ByteArray) : s.extract 0 0 = ⟨#[]⟩ := by
  apply ByteArray.ext
  simp
theorem extract_whole (s : ByteArray) : s.extract 0 s.size = s := by
  apply ByteArray.ext
  simp
theorem append_none (s : ByteArray) : s ++ ⟨#[]⟩ = s := by
  apply ByteArray.ext
  simp
theorem to_at (r : Four) (i : Int) : r.to i (r.at i) = r := by
  by_cases h : 0 ≤ i ∧ i < 4
  · rcases at_cases h.1 h.2 with rfl | rfl | rfl | rfl <;> rfl
  · unfold Four.to
    rw [if_neg (by omega), if_neg (by omega), if_neg (by omega), if_neg (by omega)]
theorem act_zero (x : Wr) (r : Four) : x.act r 0 = r := by
  unfold Wr.act
  split
  · rfl
  · rw [extract_none, append_none, to_at]
theorem stays_zero : ∀ (l : List Wr) (r : Four), stays l 0 r = r
  | [], r => rfl
  | x :: l, r => by
    by_cases h : x.whole = true ∧ min 0 x.units < x.units
    · exact stays_cut h
    · rw [stays_on h, Nat.zero_min, act_zero]
      exact stays_zero l r
theorem stays_append : ∀ (l m : List Wr) (u : Nat) (r : Four), stays (l ++ m) u r = stays m (u - unitsOf l) (stays l u r)
  | [], m, u, r => rfl
  | x :: l, m, u, r => by
    show stays (x :: (l ++ m)) u r = _
    by_cases h : x.whole = true ∧ min u x.units < x.units
    · have hu : x.units = 1 := by unfold Wr.units; rw [if_pos h.1]
      obtain rfl : u = 0 := by have := h.2; omega
      rw [stays_zero, stays_zero, Nat.zero_sub, stays_zero]
    · rw [stays_on h, stays_on h, stays_append l m]
      show stays m (u - min u x.units - unitsOf l) _ = stays m (u - (x.units + unitsOf l)) _
      rw [show u - min u x.units - unitsOf l = u - (x.units + unitsOf l) by omega]
theorem stays_full : ∀ (l : List Wr) (u : Nat) (r : Four), unitsOf l ≤ u → stays l u r = stays l (unitsOf l) r
  | [], u, r, _ => rfl
  | x :: l, u, r, h => by
    have h2 : x.units + unitsOf l ≤ u := h
    show _ = stays (x :: l) (x.units + unitsOf l) r
    rw [stays_on (by omega), stays_on (by omega), show min u x.units = x.units by omega, show min (x.units + unitsOf l) x.units = x.units by omega]
    rw [stays_full l (u - x.units) _ (by omega), stays_full l (x.units + unitsOf l - x.units) _ (by omega)]
structure St where
  n : Four
  k : Four
  l : List Wr
structure Sound (b : Nat) (st : St) : Prop where
  len : st.l.length ≤ b
  ok : ∀ x ∈ st.l, x.ok
  small : ∀ u i, ((stays st.l u st.k).at i).size ≤ 65536
  now : stays st.l (unitsOf st.l) st.k = st.n
theorem Sound.now_le {b : Nat} {st : St} (h : Sound b st) (i : Int) : (st.n.at i).size ≤ 65536 := by
  rw [← h.now]
  exact h.small _ i
theorem Sound.kept_le {b : Nat} {st : St} (h : Sound b st) (i : Int) : (st.k.at i).size ≤ 65536 := by
  have := h.small 0 i
  rw [stays_zero] at this
  exact this
theorem Sound.fine {b : Nat} {st : St} (h : Sound b st) (hb : b ≤ 1000) : Fine st.n st.k st.l := ⟨h.now_le, h.kept_le, Nat.le_trans h.len hb, h.ok⟩
theorem Sound.mono {b c : Nat} {st : St} (h : Sound b st) (hb : b ≤ c) : Sound c st := ⟨Nat.le_trans h.len hb, h.ok, h.small, h.now⟩
theorem Sound.sure {r : Four} (b : Nat) (h : ∀ i, (r.at i).size ≤ 65536) : Sound b ⟨r, r, []⟩ := ⟨Nat.zero_le _, (fun x hx => by simp at hx), (fun _ i => h i), rfl⟩
theorem Sound.zero (b : Nat) : Sound b ⟨zero4, zero4, []⟩ := Sound.sure b (at_le _ (by decide) (by decide) (by decide) (by decide))
theorem stays_one (x : Wr) (u : Nat) (r : Four) : stays [x] u r = r ∨ stays [x] u r = x.act r (min u x.units) := by
  by_cases h : x.whole = true ∧ min u x.units < x.units
  · exact .inl (stays_cut h)
  · exact .inr (stays_on h)
theorem Sound.put {b : Nat} {st : St} (h : Sound b st) (x : Wr) (hx : x.ok) (hs : ∀ m i, m ≤ x.units → ((x.act st.n m).at i).size ≤ 65536) : Sound (b + 1) ⟨x.act st.n x.units, st.k, st.l ++ [x]⟩ := by
  refine ⟨?_, ?_, ?_, ?_⟩
  · have := h.len
    show (st.l ++ [x]).length ≤ _
    rw [List.length_append]
    exact Nat.succ_le_succ this
  · intro y hy
    rcases List.mem_append.1 hy with hy | hy
    · exact h.ok y hy
    · simp at hy
      subst hy
      exact hx
  · intro u i
    show ((stays (st.l ++ [x]) u st.k).at i).size ≤ 65536
    rw [stays_append]
    by_cases hu : u ≤ unitsOf st.l
    · rw [show u - unitsOf st.l = 0 by omega, stays_zero]
      exact h.small u i
    · rw [stays_full st.l u st.k (by omega), h.now]
      rcases stays_one x (u - unitsOf st.l) st.n with e | e
      · rw [e]; exact h.now_le i
      · rw [e]; exact hs _ i (Nat.min_le_right _ _)
  · show stays (st.l ++ [x]) (unitsOf (st.l ++ [x])) st.k = x.act st.n x.units
    have hu : unitsOf (st.l ++ [x]) = unitsOf st.l + x.units := by rw [unitsOf_append]; simp [unitsOf]
    rw [stays_append, hu, stays_full st.l _ st.k (by omega), h.now, show unitsOf st.l + x.units - unitsOf st.l = x.units by omega, stays_on (by omega), Nat.min_self]
    rfl
structure OpV where
  kind : Int
  file : Int
  s : ByteArray
  n : Int
def OpV.val (o : OpV) : Value := .agg #[.int .i64 o.kind, .int .i64 o.file, .string o.s, .int .i64 o.n]
def appendT (st : St) (i : Int) (s : ByteArray) : St := if appendS st.n i s = 0 then ⟨st.n.to i (st.n.at i ++ s), st.k, st.l ++ [⟨false, i, s⟩]⟩ else st
def replaceT (st : St) (i : Int) (s : ByteArray) : St := if replaceS i s = 0 then ⟨st.n.to i s, st.k, st.l ++ [⟨true, i, s⟩]⟩ else st
theorem appendS_ok {n : Four} {i : Int} {s : ByteArray} (h : appendS n i s = 0) : (0 ≤ i ∧ i < 4) ∧ (n.at i).size + s.size ≤ 65536 := by
  unfold appendS at h
  split at h
  · simp at h
  · rename_i h1
    split at h
    · simp at h
    · exact ⟨by simpa using h1, by omega⟩
theorem replaceS_ok {i : Int} {s : ByteArray} (h : replaceS i s = 0) : (0 ≤ i ∧ i < 4) ∧ s.size ≤ 65536 := by
  unfold replaceS at h
  split at h
  · simp at h
  · rename_i h1
    split at h
    · simp at h
    · exact ⟨by simpa using h1, by omega⟩
theorem Sound.append {b : Nat} {st : St} (h : Sound b st) (i : Int) (s : ByteArray) : Sound (b + 1) (appendT st i s) := by
  unfold appendT
  split
  · rename_i h0
    obtain ⟨hi, hz⟩ := appendS_ok h0
    have hp := h.put ⟨false, i, s⟩ ⟨hi.1, hi.2, by show s.size ≤ 65536; omega⟩ (fun m j hm => by
      show ((st.n.to i (st.n.at i ++ s.extract 0 m)).at j).size ≤ 65536
      rw [at_to]
      split
      · rw [ByteArray.size_append, ByteArray.size_extract]
        omega
      · exact h.now_le j)
    have e : (Wr.mk false i s).act st.n (Wr.mk false i s).units = st.n.to i (st.n.at i ++ s) := by
      show st.n.to i (st.n.at i ++ s.extract 0 s.size) = _
      rw [extract_whole]
    rw [e] at hp
    exact hp
  · exact h.mono (Nat.le_succ _)
theorem Sound.replace {b : Nat} {st : St} (h : Sound b st) (i : Int) (s : ByteArray) : Sound (b + 1) (replaceT st i s) := by
  unfold replaceT
  split
  · rename_i h0
    obtain ⟨hi, hz⟩ := replaceS_ok h0
    exact h.put ⟨true, i, s⟩ ⟨hi.1, hi.2, hz⟩ (fun m j hm => by
      show ((if m = 1 then st.n.to i s else st.n).at j).size ≤ 65536
      split
      · rw [at_to]
        split
        · exact hz
        · exact h.now_le j
      · exact h.now_le j)
  · exact h.mono (Nat.le_succ _)
theorem Sound.sync {b : Nat} {st : St} (h : Sound b st) : Sound b ⟨st.n, st.n, []⟩ := Sound.sure b h.now_le
end Go.Proofs.Ytkiepnmbimkadaa.DK
end
section
namespace Go.Proofs.Ytkiepnmbimkadaa.DK
open Go.RowKit Go.Proofs.Ytkiepnmbimkadaa
attribute [local go_sem] max2_int min2_int max_two min_two
theorem Puts.of {w w1 w2 : World} {A : Nat} {W : Value} {n k : Four} {l : List Wr} (h1 : Keeps w w1 A W) (hp : Puts w1 w2 A W n k l) : Puts w w2 A W n k l := by
  obtain ⟨W2, ha, hK, hw⟩ := hp
  exact ⟨W2, ha, hK.after h1, hw.imp id fun f b hb => Nat.le_trans h1.size (f b hb)⟩
theorem Puts.nil {w w2 : World} {A : Nat} {W : Value} {n k : Four} {l : List Wr} (ha : At w2 A (.slice none 0 0) n k l) (hK : Keeps w w2 A W) : Puts w w2 A W n k l := ⟨_, ha, hK, .inr fun b hb => by simp [Value.ownBlock] at hb⟩
theorem Puts.same {w w2 : World} {A : Nat} {W : Value} {n k : Four} {l : List Wr} (ha : At w2 A W n k l) (hK : Keeps w w2 A W) : Puts w w2 A W n k l := ⟨_, ha, hK, .inl rfl⟩
theorem append_puts {w w2 : World} {A : Nat} {W : Value} {st : St} (h : At w A W st.n st.k st.l) {i : Int} {s : ByteArray} (hq : if appendS st.n i s = 0 then Puts w w2 A W (st.n.to i (st.n.at i ++ s)) st.k (st.l ++ [⟨false, i, s⟩]) else w2 = w) :
    Puts w w2 A W (appendT st i s).n (appendT st i s).k (appendT st i s).l := by
  unfold appendT
  split at hq
  · rename_i h0
    rw [if_pos h0]
    exact hq
  · rename_i h0
    subst hq
    rw [if_neg h0]
    exact .same h (Keeps.refl _ _ _)
theorem replace_puts {w w2 : World} {A : Nat} {W : Value} {st : St} (h : At w A W st.n st.k st.l) {i : Int} {s : ByteArray} (hq : if replaceS i s = 0 then Puts w w2 A W (st.n.to i s) st.k (st.l ++ [⟨true, i, s⟩]) else w2 = w) :
    Puts w w2 A W (replaceT st i s).n (replaceT st i s).k (replaceT st i s).l := by
  unfold replaceT
  split at hq
  · rename_i h0
    rw [if_pos h0]
    exact hq
  · rename_i h0
    subst hq
    rw [if_neg h0]
    exact .same h (Keeps.refl _ _ _)
end Go.Proofs.Ytkiepnmbimkadaa.DK
end
section
namespace Go.Proofs.Ytkiepnmbimkadaa.DK
open Go.RowKit Go.Proofs.Ytkiepnmbimkadaa
structure Off (B : Nat) (V : Value) (A : Nat) (W : Value) : Prop where
  a : B ≠ A
  b : V.ownBlock ≠ some A
  c : W.ownBlock ≠ some B
  d : ∀ b, V.ownBlock = some b → W.ownBlock ≠ some b
theorem nil_own : (Value.slice none 0 0).ownBlock = none := rfl
theorem Off.symm {B A : Nat} {V W : Value} (h : Off B V A W) : Off A W B V := ⟨h.a.symm, h.c, h.b, fun b e1 e2 => h.d b e2 e1⟩
theorem Off.nil {B A : Nat} {V W : Value} (h : Off B V A W) : Off B V A (.slice none 0 0) := ⟨h.a, h.b, (fun e => by rw [nil_own] at e; cases e), fun b _ e => by rw [nil_own] at e; cases e⟩
theorem Off.fresh {w : World} {A B : Nat} {V W : Value} {n k : Four} {l : List Wr} (h : At w A W n k l) (hB : w.heap.size ≤ B) (hV : ∀ b, V.ownBlock = some b → w.heap.size ≤ b) : Off B V A W :=
  have hA := h.lt
  have hW := fun b e => (h.row.lt b e).2
  ⟨by omega, (fun e => by have := hV _ e; omega), (fun e => by have := hW _ e; omega), fun b e1 e2 => by have := hV _ e1; have := hW _ e2; omega⟩
theorem At.off {w w2 : World} {A B : Nat} {W V : Value} {n k : Four} {l : List Wr} (ho : At w B V n k l) (hK : Keeps w w2 A W) (h : Off B V A W) : At w2 B V n k l := ho.keeps hK h.a h.b h.c h.d
theorem Own.off {N : Nat} {w0 w w2 : World} {A B : Nat} {W W2 V : Value} {n k n2 k2 : Four} {l l2 : List Wr} (ho : Own N w0 w B V n k l) (hK : Keeps w w2 A W) (h : Off B V A W) (hx : Own N w0 w2 A W2 n2 k2 l2) : Own N w0 w2 B V n k l :=
  ⟨ho.at_.off hK h, hx.bel, hx.base, ho.low, ho.row⟩
theorem Own.alloc {N : Nat} {w0 w : World} {A : Nat} {W : Value} {n k : Four} {l : List Wr} (h : Own N w0 w A W n k l) (o : Obj) : Own N w0 (w.alloc o) A W n k l := h.below ((Below.refl _ _).alloc (Nat.le_refl _) o)
theorem Own.drew {N : Nat} {w0 w : World} {A : Nat} {W : Value} {n k : Four} {l : List Wr} (h : Own N w0 w A W n k l) : Own N w0 w.drew A W n k l := ⟨h.at_.drew, h.bel.drew, h.base, h.low, h.row⟩
theorem Keeps.same {w w2 : World} {A B : Nat} {W : Value} {o : Obj} (hK : Keeps w w2 A W) (h : w.heap[B]? = some o) (h1 : B ≠ A) (h2 : W.ownBlock ≠ some B) : w2.heap[B]? = some o :=
  (hK.block B (Array.getElem?_eq_some_iff.1 h).1 h1 h2).trans h
theorem cell_of {w : World} {B : Nat} {C : Array Value} {t : TypeId} {f : Nat × Nat} (h : w.heap[B]? = some (.cells C t f)) (j : Nat) : w.cell? ⟨B, j, none⟩ = C[j]? := by simp [World.cell?, h]
end Go.Proofs.Ytkiepnmbimkadaa.DK
end
