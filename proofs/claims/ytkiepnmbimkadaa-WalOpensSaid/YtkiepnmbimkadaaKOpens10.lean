import Derived.Test.YtkiepnmbimkadaaKOpens9
namespace Go.Proofs.Ytkiepnmbimkadaa.DK
open Go.RowKit Go.Proofs.Ytkiepnmbimkadaa
attribute [local go_sem] max2_int min2_int max_two min_two
theorem afterT_now {b : Nat} {st : St} (hs : Sound b st) {f : Int} (hf : 0 ≤ f ∧ f < 4) : afterT st.l f (unitsOf st.l) (st.k.at f) = st.n.at f := by rw [← afterT_stays _ _ _ _ hf, hs.now]
set_option maxHeartbeats 4000000 in
set_option maxRecDepth 100000 in
theorem rread_walk {w : World} {B : Nat} {V : Value} {st : St} (h : RAt w B V st.k st.l) {b : Nat} (hs : Sound b st) (hb : b ≤ 1000) (i : Int) :
    Calls Try.prog 33 #[.pointer (some ⟨B, 0, none⟩), .int .i64 i] w fun e w' => e = .returned (.string (st.n.at i)) ∧ Below w.heap.size w w' := by
  have hU : unitsOf st.l ≤ 65536 * st.l.length := unitsOf_le _ hs.ok
  have hlen := hs.len
  by_cases hk : 0 ≤ i ∧ i < 4
  · obtain ⟨f, hf⟩ : ∃ f : Nat, i = f := ⟨i.toNat, by omega⟩
    subst hf
    have hu := runits_walk h (by omega) (by omega)
    have ha := after_walk h (by omega) hs.ok hs.kept_le (f := f) (by omega) (unitsOf st.l) (by omega)
    rw [afterT_now hs hk] at ha
    have h4 : ¬ (3 : Int) < f := by omega
    have h4b : ¬ 3 < f := by omega
    clear hs hk
    go_enter Try.func33, Try.ntmps33
    go_wp2_with (first
      | (go_at_call 34; (with_reducible refine hu.mono ?_); rintro e w2 ⟨rfl, rfl⟩)
      | (go_at_call 52; (with_reducible refine ha.mono ?_); rintro e w3 ⟨rfl, hbl⟩))
    go_returns
    exact ⟨rfl, hbl⟩
  · rw [Four.out _ hk]
    have h0 : i < 0 ∨ 0 ≤ i ∧ 3 < i := by omega
    clear hk h hs
    rcases h0 with h0 | ⟨h0, h1⟩
    all_goals
      go_enter Try.func33, Try.ntmps33
      go_wp2
      go_returns
      exact ⟨rfl, Below.refl _ _⟩
def RPuts (w w2 : World) (B : Nat) (V : Value) (k : Four) (l : List Wr) : Prop := ∃ V2, RAt w2 B V2 k l ∧ Keeps w w2 B V ∧ (V2.ownBlock = V.ownBlock ∨ ∀ b, V2.ownBlock = some b → w.heap.size ≤ b)
theorem info60 : (Try.prog.info? 88).map (fun i => (i.zero, i.size, i.bytes)) = some (some (.agg #[.int .i64 0, .string ⟨#[]⟩, .bool false]), 3, 32) := by kernel_rfl
theorem under27 : Try.prog.underlying 49 = some (.slice 88) := by kernel_rfl
theorem RAt.grown {w wz w5 : World} {B : Nat} {V v : Value} {k : Four} {l : List Wr} {x : Wr} (h : RAt wz B V k l) (hk : Keeps w wz B V) (o : Obj) (hg : (wz.alloc o).grownBy w5 V.ownBlock)
    (hown : w5.ownsRow 0 88 3 v (l.length + 1) (rowsOf l ++ x.row)) (hat : v.ownBlock = V.ownBlock ∨ v.ownBlock = some (wz.alloc o).heap.size) : RPuts w (w5.setCell ⟨B, 4, none⟩ v) B V k (l ++ [x]) := by
  have hB := h.lt
  have h5 : w5.heap[B]? = some (.cells (rcells k V) 51 (0, 0)) := ((hg.block B (by simp; omega) (fun e => h.apart e.symm)).trans (Below.heap_alloc _ _ _ hB)).trans h.cells
  have hvb : v.ownBlock ≠ some B := by
    rcases hat with e | e
    · rw [e]; exact h.apart
    · rw [e]; simp; omega
  have hs := hk.size
  refine ⟨v, ⟨(set_self h5).trans (by simp [rcells]), ?_, hvb⟩, ⟨hg.os.trans hk.os, hg.tape.trans hk.tape, hg.output.trans hk.output, ?_, fun j hj ha hw => ?_⟩, ?_⟩
  · rw [List.length_append, rowsOf_append]
    have e : rowsOf [x] = x.row := by simp [rowsOf]
    rw [e]
    exact hown.kept (row := some B) ⟨rfl, rfl, rfl, by simp [World.setCell], fun j _ hj => Below.heap_setCell _ _ _ _ (fun e => hj (by rw [e]))⟩ (.inr hvb)
  · rw [set_size]
    have := hg.size
    simp at this
    omega
  · rw [Below.heap_setCell _ _ _ _ ha, hg.block j (by simp; omega) (fun e => hw e.symm), Below.heap_alloc _ _ _ (by omega)]
    exact hk.block j hj ha hw
  · rcases hat with e | e
    · exact .inl e
    · right
      intro b hb
      rw [e] at hb
      simp at hb
      omega
set_option maxHeartbeats 4000000 in
set_option maxRecDepth 100000 in
theorem rreplace_walk {w : World} {B : Nat} {V : Value} {st : St} (h : RAt w B V st.k st.l) (hl : st.l.length ≤ 1000) (i : Int) (s : ByteArray) (hs : s.size ≤ 100000000000) :
    Calls Try.prog 32 #[.pointer (some ⟨B, 0, none⟩), .int .i64 i, .string s] w fun e w' => e = .returned (.int .i64 (replaceS i s)) ∧ RPuts w w' B V (replaceT st i s).k (replaceT st i s).l := by
  have c4 : w.cell? ⟨B, 4, none⟩ = some V := h.cell 4
  have hsame : RPuts w w B V st.k st.l := ⟨V, h, Keeps.refl _ _ _, .inl rfl⟩
  have hB := h.lt
  by_cases hk : 0 ≤ i ∧ i < 4
  · have h3 : ¬ 3 < i := by omega
    obtain ⟨h0, h4⟩ := hk
    by_cases hb : (s.size : Int) > 65536
    · have e : replaceS i s = 2 := by unfold replaceS; rw [if_neg (by simp; omega), if_pos hb]
      have e2 : replaceT st i s = st := by unfold replaceT; rw [if_neg (by omega)]
      rw [e, e2]
      clear h e e2
      go_enter Try.func32, Try.ntmps32
      go_wp2
      go_returns
      exact ⟨rfl, hsame⟩
    · have e : replaceS i s = 0 := by unfold replaceS; rw [if_neg (by simp; omega), if_neg hb]
      have e2 : replaceT st i s = ⟨st.n.to i s, st.k, st.l ++ [⟨true, i, s⟩]⟩ := by unfold replaceT; rw [if_pos e]
      rw [e, e2]
      obtain ⟨i0, hi60, hz60⟩ := Option.map_eq_some_iff.1 info60
      simp only [Prod.mk.injEq] at hz60
      obtain ⟨hz0, hz1, hz2⟩ := hz60
      have hrow := h.row.alloc (.cells #[.int .i64 i, .string s, .bool true] 88)
      clear e e2 hsame
      go_enter Try.func32, Try.ntmps32
      go_wp2_with (first | (at_builtin; refine wpList_append_own_at _ rfl (.tmp 20) (.tmp 24) 49 rfl 0 88 i0 (.agg #[.int .i64 0, .string ⟨#[]⟩, .bool false]) 3 32 under27 hi60 hz0 hz1 hz2 rfl (by decide) V st.l.length (rowsOf st.l) rfl hrow ⟨w.heap.size, 0, none⟩ 1 1 [.int .i64 i, .string s, .bool true] rfl rfl (World.news_of_block (cs := #[.int .i64 i, .string s, .bool true]) (t := 88) (fr := (0, 0)) (heap_alloc_new w _)) (by simp [Value.oneCell']) (by simp only [maxLen]; omega) (by omega) (Nat.zero_le _) ?_; intro v w5 hown hg _ hat; obtain ⟨g, cap, rfl, _, hgl⟩ := hown.form (by omega); have hfin := h.grown (x := ⟨true, i, s⟩) (Keeps.refl _ _ _) _ hg hown hat; have c9 : w5.cell? ⟨B, 4, none⟩ = some V := hg.cell (by go_cell) (fun e => h.apart e.symm); have f9 : w5.frozen? ⟨B, 4, none⟩ = false := (World.frozen?_of_block (w := w) (a := ⟨B, 4, none⟩) ((hg.block B (by simp; omega) (fun e => h.apart e.symm)).trans (Below.heap_alloc _ _ _ hB))).trans (h.frozen 4)))
      go_returns
      exact ⟨rfl, hfin⟩
  · have e : replaceS i s = 1 := by unfold replaceS; rw [if_pos hk]
    have e2 : replaceT st i s = st := by unfold replaceT; rw [if_neg (by omega)]
    rw [e, e2]
    have h0 : i < 0 ∨ 0 ≤ i ∧ 3 < i := by omega
    clear hk h e e2
    rcases h0 with h0 | ⟨h0, h1⟩
    all_goals
      go_enter Try.func32, Try.ntmps32
      go_wp2
      go_returns
      exact ⟨rfl, hsame⟩
end Go.Proofs.Ytkiepnmbimkadaa.DK
